-- printed by wip/tools/myprint.py out of the translation. Not trusted: Lean checks it.
import Derived.Test.YtmolcgkahhdkgaaDoorPx0
import Derived.Test.YtmolcgkahhdkgaaDoorPx4
import Derived.Test.YtmolcgkahhdkgaaDoorPx5
import Derived.Test.YtmolcgkahhdkgaaDoorPx6
import Derived.Test.YtmolcgkahhdkgaaDoorPx7
namespace Go.Proofs.YtmolcgkahhdkgaaDoor.P
open Go.RowKit Go.Proofs.YtmolcgkahhdkgaaDoorW.PrintWords Go.Proofs.YtmolcgkahhdkgaaDoorW.PrintLast Go.Proofs.YtmolcgkahhdkgaaDoorW.PrintMore
attribute [local go_sem] max2_int min2_int max_two min_two max_three min_three max_four min_four   -- for this text's walks alone
set_option linter.unusedVariables false
set_option linter.unusedSimpArgs false

/-! ### local_Split: function 7 -/
/-! ### labels that are split off -/
def nameB (s : ByteArray) : Bool := !([[108, 115, 108], [108, 115, 114], [97, 115, 114], [114, 111, 114]] : List (List UInt8)).contains s.data.toList && ((operand_Reg.f s).map (fun r => decide (r.2.2 ≠ 0))).getD false && wordB s.data.toList
def digB (s : ByteArray) : Bool := decide (1 ≤ s.size) && decide (s.size ≤ 4) && s.data.toList.all (fun c => isDig c.toNat)
def labT (t : S30) : Bool := if t.f0 = 1 then nameB t.f1 else digB t.f1
theorem text_tot (v : Int) (h0 : 0 ≤ v) (h1 : v < 18446744073709551616) : ∃ r, num_Text.f v = some r := by
  unfold num_Text.f
  refine ⟨decS v.toNat, ?_⟩
  have e : strconv_FormatUint_40.f v 10 = some (decS v.toNat) := by
    unfold strconv_FormatUint_40.f strconv_FormatUint_47.f
    rw [if_pos ⟨h0, h1, Or.inl rfl⟩, if_pos rfl]
    rfl
  rw [e]
  rfl
theorem value_tot (s : ByteArray) : ∃ v e, num_Value.f s = some (v, e) ∧ 0 ≤ v := by
  unfold num_Value.f
  by_cases h : okB (restS s) (baseS s) = true
  · rw [if_pos h]
    cases valL (baseS s) (restS s).data.toList 0 with
    | none => exact ⟨_, _, rfl, by decide⟩
    | some v => exact ⟨_, _, rfl, by omega⟩
  · rw [if_neg h]
    exact ⟨_, _, rfl, by decide⟩
theorem reg_tot (s : ByteArray) : ∃ a b c, operand_Reg.f s = some (a, b, c) := by
  unfold operand_Reg.f
  by_cases h1 : s.toList = ([115, 112] : List UInt8)
  · rw [if_pos h1]; exact ⟨_, _, _, rfl⟩
  rw [if_neg h1]
  by_cases h2 : s.toList = ([120, 122, 114] : List UInt8)
  · rw [if_pos h2]; exact ⟨_, _, _, rfl⟩
  rw [if_neg h2]
  by_cases h3 : (s.size : Int) < 2
  · rw [if_pos h3]; exact ⟨_, _, _, rfl⟩
  rw [if_neg h3]
  by_cases h4 : (s.size : Int) > 3
  · rw [if_pos h4]; exact ⟨_, _, _, rfl⟩
  rw [if_neg h4, if_pos (by omega)]
  by_cases h5 : bt s 0 = 120
  · rw [if_pos h5, if_pos (by omega)]
    obtain ⟨v, e, hv, h0⟩ := value_tot (s.extract 1 s.size)
    rw [hv, Option.bind_some]
    simp only
    by_cases h6 : e = 0
    · rw [if_pos h6]
      by_cases h7 : v ≥ 31
      · rw [if_pos h7]; exact ⟨_, _, _, rfl⟩
      · rw [if_neg h7]
        obtain ⟨r, hr⟩ := text_tot v h0 (by omega)
        rw [hr, Option.bind_some]
        by_cases h8 : r.toList = (s.extract 1 s.size).toList
        · rw [if_pos h8]; exact ⟨_, _, _, rfl⟩
        · rw [if_neg h8]; exact ⟨_, _, _, rfl⟩
    · rw [if_neg h6]; exact ⟨_, _, _, rfl⟩
  · rw [if_neg h5]; exact ⟨_, _, _, rfl⟩
theorem name_f (k : Nat) (s : ByteArray) : local_IsName.f (k + 1) s = some (nameB s) := by
  unfold local_IsName.f nameB
  rw [ByteArray.toList_eq]
  obtain ⟨a, b, c, hr⟩ := reg_tot s
  rw [hr]
  simp only [local_IsName.j0, hr]
  generalize hL : s.data.toList = L
  have hw : lex_IsWord.f s = some (wordB L) := by rw [← hL]; rfl
  rw [hw]
  by_cases h1 : L = [108, 115, 108]
  · rw [if_pos h1, h1]; rfl
  rw [if_neg h1]
  by_cases h2 : L = [108, 115, 114]
  · rw [if_pos h2, h2]; rfl
  rw [if_neg h2]
  by_cases h3 : L = [97, 115, 114]
  · rw [if_pos h3, h3]; rfl
  rw [if_neg h3]
  by_cases h4 : L = [114, 111, 114]
  · rw [if_pos (beq_iff_eq.2 h4), h4]; rfl
  rw [if_neg (by simpa using h4)]
  have hn : ([[108, 115, 108], [108, 115, 114], [97, 115, 114], [114, 111, 114]] : List (List UInt8)).contains L = false := by
    rw [Bool.eq_false_iff]
    intro h
    simp at h
    rcases h with h | h | h | h <;> contradiction
  rw [hn]
  by_cases hc : c = 0
  · simp [hc]
  · simp [hc]
theorem lab_bt (s : ByteArray) (i : Nat) (h : i < s.size) : bt s (i : Int) = ((s[i]'h).toNat : Int) := by
  unfold bt
  rw [dif_pos (show ((i : Int)).toNat < s.size by omega)]
  rfl
theorem label_l0 (t0 : Int) (s : ByteArray) (t2 : Int) (hs : s.size ≤ 4) (d : Nat) : ∀ (k i : Nat), s.size - i = d → d < k → i ≤ s.size →
    local_label.l0 k (s.size : Int) (i : Int) t0 s t2 = some ((s.data.toList.drop i).all (fun c => isDig c.toNat)) := by
  induction d with
  | zero =>
    intro k i h1 h2 h3
    obtain ⟨k, rfl⟩ : ∃ m, k = m + 1 := ⟨k - 1, by omega⟩
    simp only [local_label.l0]
    rw [if_neg (by omega), List.drop_eq_nil_of_le (by simp; omega)]
    rfl
  | succ d ih =>
    intro k i h1 h2 h3
    obtain ⟨k, rfl⟩ : ∃ m, k = m + 1 := ⟨k - 1, by omega⟩
    have hi : i < s.size := by omega
    have hw : wrap64 ((i : Int) + 1) = ((i + 1 : Nat) : Int) := by unfold wrap64; omega
    have hd : s.data.toList.drop i = s[i]'hi :: s.data.toList.drop (i + 1) := by
      rw [List.drop_eq_getElem_cons (by simpa using hi)]; rfl
    simp only [local_label.l0]
    rw [if_pos (by omega), if_pos (by omega), if_pos (by omega), hw, lab_bt s i hi, hd, List.all_cons, ih k (i + 1) (by omega) (by omega) (by omega)]
    generalize s[i]'hi = c
    unfold isDig
    by_cases g1 : ((c.toNat : Nat) : Int) < 48
    · rw [if_pos g1, decide_eq_false (by omega : ¬ (48 : Int) ≤ c.toNat)]; rfl
    rw [if_neg g1, decide_eq_true (by omega : (48 : Int) ≤ c.toNat)]
    by_cases g2 : ((c.toNat : Nat) : Int) > 57
    · rw [if_pos g2, decide_eq_false (by omega : ¬ (c.toNat : Int) ≤ 57)]; rfl
    rw [if_neg g2, decide_eq_true (by omega : (c.toNat : Int) ≤ 57)]; rfl
theorem label_f (t : S30) : local_label.f 8 t.f0 t.f1 t.f2 = some (labT t) := by
  unfold local_label.f labT
  by_cases h1 : t.f0 = 1
  · rw [if_pos h1, if_pos h1, name_f 7 t.f1]; rfl
  rw [if_neg h1, if_neg h1]
  unfold digB
  by_cases h2 : (t.f1.size : Int) < 1
  · rw [if_pos h2, decide_eq_false (by omega : ¬ 1 ≤ t.f1.size)]; rfl
  rw [if_neg h2, decide_eq_true (by omega : 1 ≤ t.f1.size)]
  by_cases h3 : (t.f1.size : Int) > 4
  · rw [decide_eq_true h3, decide_eq_false (by omega : ¬ t.f1.size ≤ 4)]; rfl
  rw [decide_eq_false h3, decide_eq_true (by omega : t.f1.size ≤ 4)]
  have h := label_l0 t.f0 t.f1 t.f2 (by omega) t.f1.size 7 0 rfl (by omega) (Nat.zero_le _)
  rw [List.drop_zero] at h
  show (if false = true then some false else local_label.l0 7 (t.f1.size : Int) 0 t.f0 t.f1 t.f2) = _
  rw [if_neg (by decide)]
  exact h
def headB (t c : S30) : Bool := (t.f0 == 1 || t.f0 == 2) && c.f0 == 4 && c.f1.toList == [58]
def splitA : List S30 → List ByteArray → List ByteArray × List S30 × Int
  | t :: c :: r, T => if headB t c then (if labT t then splitA r (T ++ [t.f1]) else ([], [], 3)) else (T, t :: c :: r, 0)
  | l, T => (T, l, 0)
/-- What the two captured variables hold, in a world that has come from w0. -/
structure SplW (w0 w : World) (A : Option Addr) (c : Nat) (L : List S30) (T : List ByteArray) : Prop where
  below : Below w0.heap.size w0 w
  cl : w.heap[w0.heap.size]? = some (.cells #[.slice A L.length c] 22 (0, 0))
  cn : ∃ v, w.heap[w0.heap.size + 1]? = some (.cells #[v] 23 (0, 0)) ∧ Kd.string.R 9 w w0.heap.size (fun k => k ≠ w0.heap.size ∧ k ≠ w0.heap.size + 1) v T
  row : Kd.C k30 w0 A L.length L
  cap : L.length ≤ c
theorem two_toks {W : World} {A : Option Addr} {n : Nat} {x y : S30} {l : List S30} (h : Kd.C k30 W A n (x :: y :: l)) : ∃ ad, A = some ad ∧ W.cell? ad = some (.int .i64 x.f0) ∧ W.cell? ⟨ad.block, ad.off + 1, none⟩ = some (.string x.f1) ∧ W.cell? ⟨ad.block, ad.off + 3, none⟩ = some (.int .i64 y.f0) ∧ W.cell? ⟨ad.block, ad.off + 4, none⟩ = some (.string y.f1) ∧ W.cell? ⟨ad.block, ad.off + 2, none⟩ = some (.int .u64 x.f2) ∧ W.cell? ⟨ad.block, ad.off + 5, none⟩ = some (.int .u64 y.f2) := by
  have hn : 2 ≤ n := by have := h.1; simp at this; omega
  obtain ⟨ad, e, p0, p1, p2⟩ := at_T30 h 0 (by decide) (by omega)
  obtain ⟨ad2, e2, q0, q1, q2⟩ := at_T30 h 1 (by decide) (by omega)
  subst e
  cases e2
  have hz : ad.add (((0 : Int)).toNat * 3) = ad := by show ad.add 0 = ad; simp [Addr.add]
  rw [hz] at p0 p1 p2
  have hz2 : ad.add (((1 : Int)).toNat * 3) = ⟨ad.block, ad.off + 3, none⟩ := by show ad.add 3 = _; simp [Addr.add]
  rw [hz2] at q0 q1 q2
  exact ⟨ad, rfl, p0, p1, q0, q1, p2, q2⟩
set_option maxHeartbeats 4000000 in
set_option maxRecDepth 100000 in
theorem split_short (w0 w : World) (A : Option Addr) (c : Nat) (L : List S30) (T : List ByteArray) (H : SplW w0 w A c L T) (hl : L.length < 2) :
    Calls Tryd.prog 14 #[.pointer (some ⟨w0.heap.size, 0, none⟩), .pointer (some ⟨w0.heap.size + 1, 0, none⟩)] w fun e w' => e = .returned (.tuple #[.bool false, .int .i64 0]) ∧ w' = w := by
  have c1 : decide ((L.length : Int) < 2) = true := decide_eq_true (by omega)
  have hx : w.cell? ⟨w0.heap.size, 0, none⟩ = some (.slice A L.length c) := blk_cell H.cl 0
  clear H hl
  go_enter Tryd.func14, Tryd.ntmps14
  go_wp2
  go_ret2
  exact ⟨rfl, rfl⟩
set_option maxHeartbeats 4000000 in
set_option maxRecDepth 100000 in
theorem split_more (w0 w : World) (A : Option Addr) (c : Nat) (t d : S30) (r : List S30) (T : List ByteArray) (HH : Aside0 (SplW w0 w A c (t :: d :: r) T)) (hb : headB t d = true) (hl : labT t = true) (hT : (T.length + 1) * 16 ≤ 140737488355328) (HT : Aside0 (Tabs w0)) :
    Calls Tryd.prog 14 #[.pointer (some ⟨w0.heap.size, 0, none⟩), .pointer (some ⟨w0.heap.size + 1, 0, none⟩)] w fun e w' => e = .returned (.tuple #[.bool true, .int .i64 0]) ∧ ∃ A' c', SplW w0 w' A' c' r (T ++ [t.f1]) := by
  have H := HH.out
  have c1 : decide (((t :: d :: r).length : Int) < 2) = false := decide_eq_false (by simp; omega)
  have hx : w.cell? ⟨w0.heap.size, 0, none⟩ = some (.slice A (t :: d :: r).length c) := blk_cell H.cl 0
  obtain ⟨v, hv, hR⟩ := H.cn
  have hy : w.cell? ⟨w0.heap.size + 1, 0, none⟩ = some v := blk_cell hv 0
  obtain ⟨ad, rfl, q0, q1, q2, q3, q4, q5⟩ := two_toks H.row
  have k0 := (H.below.cell (World.block_lt_of_cell? w0 _ q0)).trans q0
  have k1 := (H.below.cell (World.block_lt_of_cell? w0 _ q1)).trans q1
  have k2 := (H.below.cell (World.block_lt_of_cell? w0 _ q2)).trans q2
  have k3 := (H.below.cell (World.block_lt_of_cell? w0 _ q3)).trans q3
  have k4 := (H.below.cell (World.block_lt_of_cell? w0 _ q4)).trans q4
  have k5 := (H.below.cell (World.block_lt_of_cell? w0 _ q5)).trans q5
  obtain ⟨n, hn⟩ : ∃ n, (t :: d :: r).length = n := ⟨_, rfl⟩
  rw [hn] at hx c1
  have n0 : 0 < n := by rw [← hn]; simp
  have n2 : 2 ≤ n := by rw [← hn]; simp
  have p0 : (0 : Int) < (n : Int) := by omega
  have p1 : (1 : Int) < (n : Int) := by omega
  have p2 : (2 : Int) ≤ (n : Int) := by omega
  have hb2 := hb
  unfold headB at hb2
  rw [Bool.and_eq_true, Bool.and_eq_true] at hb2
  have e4 : (d.f1.toList != [58]) = false := by rw [bne, hb2.2]; rfl
  have e5 : (d.f1.toList == [58]) = true := hb2.2
  have e3 : (d.f0 != 4) = false := by rw [bne, hb2.1.2]; rfl
  have HLB := Aside0.mk (label_f t)
  rw [hl] at HLB
  have key : (t.f0 != 1) = false ∨ ((t.f0 != 1) = true ∧ (t.f0 != 2) = false) := by
    by_cases h1 : t.f0 = 1
    · rw [h1]; exact Or.inl rfl
    · have := hb2.1.1
      rw [Bool.or_eq_true, beq_iff_eq, beq_iff_eq] at this
      rw [this.resolve_left h1]
      exact Or.inr ⟨rfl, rfl⟩
  have HN := Aside0.mk hn
  have HRv := Aside0.mk hR
  have HV := Aside0.mk hv
  clear H hb hb2 hl q0 q1 q2 q3 q4 q5 hn hR hv
  rcases key with e1 | ⟨e1, e2⟩
  all_goals
    go_enter Tryd.func14, Tryd.ntmps14
    go_wp2_with (fail)
    refine (local_label.calls 8 _ _ _ true _ HLB.out (tabs_of HT HH.out.below)).mono ?_
    rintro e W1 ⟨rfl, hb1⟩
    have k0 := (hb1.cell (World.block_lt_of_cell? w _ k0)).trans k0
    have k1 := (hb1.cell (World.block_lt_of_cell? w _ k1)).trans k1
    have k4 := (hb1.cell (World.block_lt_of_cell? w _ k4)).trans k4
    have hx := (hb1.cell (World.block_lt_of_cell? w _ hx)).trans hx
    have hy := (hb1.cell (World.block_lt_of_cell? w _ hy)).trans hy
    have HW1 := Aside0.mk (HH.out.below.trans (hb1.mono HH.out.below.size))
    have HS1 := Aside0.mk HW1.out.size
    have HR1 := Aside0.mk (Kd.R_below HRv.out hb1)
    have HV1 := Aside0.mk (blk_below HV.out hb1)
    have HL1 := Aside0.mk (blk_below HH.out.cl hb1)
    have HLT := Aside0.mk (blk_lt HV1.out)
    have hnv := Kd.R_away (g := w0.heap.size + 1) HR1.out (fun _ hk => hk.2)
    have hnl := Kd.R_away (g := w0.heap.size) HR1.out (fun _ hk => hk.1)
    have hfx := blk_frozen HV1.out 0
    have hyA : (W1.alloc (.cells #[.string t.f1] 9)).cell? ⟨w0.heap.size + 1, 0, none⟩ = some v := (blk_cell (blk_alloc HV1.out _) 0).trans rfl
    clear hb1
    go_wp2
    go_region_law ((refine Kd.R_append_step Kd.string (w0 := w0) w0.heap.size (by rfl) _ _ 23 9 (.string ⟨#[]⟩) 16 (by rfl) Tryd.underlying23 info_str rfl (by decide) (by omega) v T t.f1 [.string t.f1] (fun k => k ≠ w0.heap.size ∧ k ≠ w0.heap.size + 1) (fun _ => False) (by rfl) (by rfl) rfl (fun _ hk => hk.elim) (fun k hk => by have : W1.heap.size ≤ k := hk; have := HLT.out; omega) (Kd.R_drewN HR1.out _) (pw_below_drewN HW1.out _) HS1.out hT ?_; intro v1 w3 hR3 hB3 hg3 hat3; obtain ⟨A1, c9, rfl⟩ := Kd.R_slice hR3; have hb3 := blk_grown (blk_drewN HV1.out _) hg3 hnv; have hl3 := blk_grown (blk_drewN HL1.out _) hg3 hnl; have f0 := blk_cell hb3 0; have ff := blk_frozen hb3 0; simp at f0 ff))
    all_goals
      have HX3 := Aside0.mk hR3
      have HY3 := Aside0.mk hB3
      have HZ3 := Aside0.mk hb3
      have HL3 : Aside0 (w3.heap[w0.heap.size]? = some (.cells #[.slice (some ad) n c] 22 (0, 0))) := ⟨by rw [← HN.out]; exact hl3⟩
      clear hR3 hB3 hb3 hl3 hg3 hat3 hx hy hyA k0 k1 k2 k3 k4 k5
      have hlb := Aside0.mk (blk_set HZ3.out 0 (.slice A1 (T ++ [t.f1]).length c9))
      have hl4 := Aside0.mk (blk_far HL3.out (p := ⟨w0.heap.size + 1, 0, none⟩) (by simp) (.slice A1 (T ++ [t.f1]).length c9))
      have g0 := blk_cell hl4.out 0
      have g1 := blk_frozen hl4.out 0
      simp at g0 g1
      obtain ⟨i0, hi0, _, hsz0, _⟩ := info_parts info_tok
      have hcut := cut_from (P := Tryd.prog) 22 30 .i64 Tryd.underlying22 hi0 3 hsz0 (some ad) n c 2 (by omega) p2
      have hdr := Kd.C_drop (m := 2) (c := c) HH.out.row (by simp) HH.out.cap
      rw [show (2 : Int).toNat = 2 from rfl] at hcut
      obtain ⟨A5, hA5⟩ : ∃ A5, (if c = 2 then (some ad) else ((some ad) : Option Addr).map (·.add (2 * 3))) = A5 := ⟨_, rfl⟩
      obtain ⟨k5, hk5⟩ : ∃ k5, c - 2 = k5 := ⟨_, rfl⟩
      obtain ⟨n5, hn5⟩ : ∃ n5, n - 2 = n5 := ⟨_, rfl⟩
      rw [show k30.sz = 3 from rfl, hA5] at hdr
      rw [hA5, hk5, hn5] at hcut
      have HDR : Aside0 (Kd.C k30 w0 A5 r.length r) := ⟨hdr⟩
      have HN5 : Aside0 (n5 = r.length ∧ r.length ≤ k5) := ⟨by
        have h1 := HN.out
        have h2 := HH.out.cap
        simp only [List.length_cons] at h1 h2
        omega⟩
      clear hdr hi0 hsz0 hA5 hk5 hn5
      go_wp2
      go_ret2
      refine ⟨rfl, A5, k5, ?_, ?_, ?_, HDR.out, HN5.out.2⟩
      · exact ((HY3.out.setCell (p := ⟨w0.heap.size + 1, 0, none⟩) (by simp) _).setCell (p := ⟨w0.heap.size, 0, none⟩) (by simp) _)
      · have h := blk_set hl4.out 0 (.slice A5 n5 k5)
        rw [HN5.out.1] at h ⊢
        simpa using h
      · refine ⟨.slice A1 (T ++ [t.f1]).length c9, ?_, ?_⟩
        · have h := blk_far hlb.out (p := ⟨w0.heap.size, 0, none⟩) (by simp) (.slice A5 n5 k5)
          simpa using h
        · have h := Kd.R_far (p := ⟨w0.heap.size, 0, none⟩) (Kd.R_far (p := ⟨w0.heap.size + 1, 0, none⟩) HX3.out (fun k hk => hk.2) (.slice A1 (T ++ [t.f1]).length c9)) (fun k hk => hk.1) (.slice A5 n5 k5)
          simpa using h
set_option maxHeartbeats 4000000 in
set_option maxRecDepth 100000 in
theorem split_bad (w0 w : World) (A : Option Addr) (c : Nat) (t d : S30) (r : List S30) (T : List ByteArray) (HH : Aside0 (SplW w0 w A c (t :: d :: r) T)) (hb : headB t d = true) (hl : labT t = false) (HT : Aside0 (Tabs w0)) :
    Calls Tryd.prog 14 #[.pointer (some ⟨w0.heap.size, 0, none⟩), .pointer (some ⟨w0.heap.size + 1, 0, none⟩)] w fun e w' => e = .returned (.tuple #[.bool false, .int .i64 3]) ∧ Below w0.heap.size w0 w' := by
  have H := HH.out
  have c1 : decide (((t :: d :: r).length : Int) < 2) = false := decide_eq_false (by simp; omega)
  have hx : w.cell? ⟨w0.heap.size, 0, none⟩ = some (.slice A (t :: d :: r).length c) := blk_cell H.cl 0
  obtain ⟨v, hv, hR⟩ := H.cn
  have hy : w.cell? ⟨w0.heap.size + 1, 0, none⟩ = some v := blk_cell hv 0
  obtain ⟨ad, rfl, q0, q1, q2, q3, q4, q5⟩ := two_toks H.row
  have k0 := (H.below.cell (World.block_lt_of_cell? w0 _ q0)).trans q0
  have k1 := (H.below.cell (World.block_lt_of_cell? w0 _ q1)).trans q1
  have k2 := (H.below.cell (World.block_lt_of_cell? w0 _ q2)).trans q2
  have k3 := (H.below.cell (World.block_lt_of_cell? w0 _ q3)).trans q3
  have k4 := (H.below.cell (World.block_lt_of_cell? w0 _ q4)).trans q4
  have k5 := (H.below.cell (World.block_lt_of_cell? w0 _ q5)).trans q5
  obtain ⟨n, hn⟩ : ∃ n, (t :: d :: r).length = n := ⟨_, rfl⟩
  rw [hn] at hx c1
  have n0 : 0 < n := by rw [← hn]; simp
  have n2 : 2 ≤ n := by rw [← hn]; simp
  have p0 : (0 : Int) < (n : Int) := by omega
  have p1 : (1 : Int) < (n : Int) := by omega
  have p2 : (2 : Int) ≤ (n : Int) := by omega
  have hb2 := hb
  unfold headB at hb2
  rw [Bool.and_eq_true, Bool.and_eq_true] at hb2
  have e4 : (d.f1.toList != [58]) = false := by rw [bne, hb2.2]; rfl
  have e5 : (d.f1.toList == [58]) = true := hb2.2
  have e3 : (d.f0 != 4) = false := by rw [bne, hb2.1.2]; rfl
  have HLB := Aside0.mk (label_f t)
  rw [hl] at HLB
  have key : (t.f0 != 1) = false ∨ ((t.f0 != 1) = true ∧ (t.f0 != 2) = false) := by
    by_cases h1 : t.f0 = 1
    · rw [h1]; exact Or.inl rfl
    · have := hb2.1.1
      rw [Bool.or_eq_true, beq_iff_eq, beq_iff_eq] at this
      rw [this.resolve_left h1]
      exact Or.inr ⟨rfl, rfl⟩
  have HN := Aside0.mk hn
  have HRv := Aside0.mk hR
  have HV := Aside0.mk hv
  clear H hb hb2 hl q0 q1 q2 q3 q4 q5 hn hR hv
  rcases key with e1 | ⟨e1, e2⟩
  all_goals
    go_enter Tryd.func14, Tryd.ntmps14
    go_wp2_with (fail)
    refine (local_label.calls 8 _ _ _ false _ HLB.out (tabs_of HT HH.out.below)).mono ?_
    rintro e W1 ⟨rfl, hb1⟩
    have HW1 := Aside0.mk (HH.out.below.trans (hb1.mono HH.out.below.size))
    clear hb1
    go_wp2
    go_ret2
    exact ⟨rfl, HW1.out⟩
set_option maxHeartbeats 4000000 in
set_option maxRecDepth 100000 in
theorem split_stop (w0 w : World) (A : Option Addr) (c : Nat) (t d : S30) (r : List S30) (T : List ByteArray) (HH : Aside0 (SplW w0 w A c (t :: d :: r) T)) (hb : headB t d = false) :
    Calls Tryd.prog 14 #[.pointer (some ⟨w0.heap.size, 0, none⟩), .pointer (some ⟨w0.heap.size + 1, 0, none⟩)] w fun e w' => e = .returned (.tuple #[.bool false, .int .i64 0]) ∧ w' = w := by
  have H := HH.out
  have c1 : decide (((t :: d :: r).length : Int) < 2) = false := decide_eq_false (by simp; omega)
  have hx : w.cell? ⟨w0.heap.size, 0, none⟩ = some (.slice A (t :: d :: r).length c) := blk_cell H.cl 0
  obtain ⟨v, hv, hR⟩ := H.cn
  have hy : w.cell? ⟨w0.heap.size + 1, 0, none⟩ = some v := blk_cell hv 0
  obtain ⟨ad, rfl, q0, q1, q2, q3, q4, q5⟩ := two_toks H.row
  have k0 := (H.below.cell (World.block_lt_of_cell? w0 _ q0)).trans q0
  have k1 := (H.below.cell (World.block_lt_of_cell? w0 _ q1)).trans q1
  have k2 := (H.below.cell (World.block_lt_of_cell? w0 _ q2)).trans q2
  have k3 := (H.below.cell (World.block_lt_of_cell? w0 _ q3)).trans q3
  have k4 := (H.below.cell (World.block_lt_of_cell? w0 _ q4)).trans q4
  have k5 := (H.below.cell (World.block_lt_of_cell? w0 _ q5)).trans q5
  obtain ⟨n, hn⟩ : ∃ n, (t :: d :: r).length = n := ⟨_, rfl⟩
  rw [hn] at hx c1
  have n0 : 0 < n := by rw [← hn]; simp
  have n2 : 2 ≤ n := by rw [← hn]; simp
  have p0 : (0 : Int) < (n : Int) := by omega
  have p1 : (1 : Int) < (n : Int) := by omega
  have p2 : (2 : Int) ≤ (n : Int) := by omega
  have key : ((t.f0 != 1) = true ∧ (t.f0 != 2) = true) ∨ (((t.f0 != 1) = false ∨ ((t.f0 != 1) = true ∧ (t.f0 != 2) = false)) ∧ ((d.f0 != 4) = true ∨ ((d.f0 != 4) = false ∧ (d.f1.toList == [58]) = false))) := by
    unfold headB at hb
    cases h1 : t.f0 == 1
    · cases h2 : t.f0 == 2
      · exact Or.inl ⟨by rw [bne, h1]; rfl, by rw [bne, h2]; rfl⟩
      · refine Or.inr ⟨Or.inr ⟨by rw [bne, h1]; rfl, by rw [bne, h2]; rfl⟩, ?_⟩
        rw [h1, h2] at hb
        cases h3 : d.f0 == 4
        · exact Or.inl (by rw [bne, h3]; rfl)
        · rw [h3] at hb
          exact Or.inr ⟨by rw [bne, h3]; rfl, by simpa using hb⟩
    · refine Or.inr ⟨Or.inl (by rw [bne, h1]; rfl), ?_⟩
      rw [h1] at hb
      cases h3 : d.f0 == 4
      · exact Or.inl (by rw [bne, h3]; rfl)
      · rw [h3] at hb
        exact Or.inr ⟨by rw [bne, h3]; rfl, by simpa using hb⟩
  clear H hb q0 q1 q2 q3 q4 q5 hn hR hv
  rcases key with ⟨e1, e2⟩ | ⟨e1 | ⟨e1, e2⟩, e3 | ⟨e3, e5⟩⟩
  all_goals
    go_enter Tryd.func14, Tryd.ntmps14
    go_wp2
    go_ret2
    exact ⟨rfl, rfl⟩
theorem splitA_more {t c : S30} {r : List S30} {T : List ByteArray} (h : headB t c = true) (hl : labT t = true) : splitA (t :: c :: r) T = splitA r (T ++ [t.f1]) := by
  rw [splitA, if_pos h, if_pos hl]
theorem splitA_bad {t c : S30} {r : List S30} {T : List ByteArray} (h : headB t c = true) (hl : labT t = false) : splitA (t :: c :: r) T = ([], [], 3) := by
  rw [splitA, if_pos h, if_neg (by rw [hl]; decide)]
theorem splitA_stop {t c : S30} {r : List S30} {T : List ByteArray} (h : headB t c = false) : splitA (t :: c :: r) T = (T, t :: c :: r, 0) := by
  rw [splitA, if_neg (by rw [h]; decide)]
theorem splitA_short {l : List S30} {T : List ByteArray} (h : l.length < 2) : splitA l T = (T, l, 0) := by
  match l, h with
  | [], _ => rfl
  | [_], _ => rfl
  | _ :: _ :: _, h => simp at h; omega
def local_Split.f (l : List S30) : Option (List ByteArray × List S30 × Int) := if l.length ≤ 1000000 then some (splitA l []) else none
set_option maxHeartbeats 8000000 in
set_option maxRecDepth 100000 in
theorem local_Split.calls (A0 : Option Addr) (c0 : Nat) (l0 : List S30) (r0 : List ByteArray) (r1 : List S30) (r2 : Int) (w : World) (hr0 : Kd.C k30 w A0 l0.length l0) (hc0 : l0.length ≤ c0) (h : local_Split.f l0 = some (r0, r1, r2)) (HT : Aside0 (Tabs w)) :
    Calls Tryd.prog 7 #[.slice A0 l0.length c0] w fun e w' => ∃ v0_ v1_ : Value, e = .returned (.tuple #[v0_, v1_, .int .i64 r2]) ∧ Kd.R Kd.string 9 w' w.heap.size (fun _ => True) v0_ r0 ∧ Kd.R k30 30 w' w.heap.size (fun _ => True) v1_ r1 ∧ Below w.heap.size w w' := by
  unfold local_Split.f at h
  by_cases hlen : l0.length ≤ 1000000
  · rw [if_pos hlen] at h
    have HV := Aside0.mk (Option.some.inj h)
    have HLN := Aside0.mk hlen
    have HR0 := Aside0.mk hr0
    have HC0 := Aside0.mk hc0
    clear h hlen hr0 hc0
    have hmf : ∀ (fn : Fn) (first cap : Array Value) (w : World), (Instr.makeFunc fn first cap).run Tryd.prog w = .ok (.func fn first cap) w := fun _ _ _ _ => rfl
    go_enter Tryd.func7, Tryd.ntmps7
    go_wp2
    go_loopg [7, 8] (l0.length + 1) (fun gk _ _ wr => ∃ (A : Option Addr) (c : Nat) (L : List S30) (T : List ByteArray), Aside0 (SplW w wr A c L T) ∧ Aside0 (splitA L T = (r0, r1, r2) ∧ L.length < gk ∧ T.length + L.length ≤ l0.length))
    case atStart =>
      refine ⟨A0, c0, l0, [], ⟨below_alloc (below_alloc (Below.refl _ _) _) _, ?_, ⟨_, ?_, Kd.R_nil _ _ _ _ _⟩, HR0.out, HC0.out⟩, ⟨HV.out, by omega, by simp⟩⟩
      · exact blk_alloc (blk_new w _) _
      · simpa using blk_new (w.alloc (.cells #[.slice A0 l0.length c0] 22)) (.cells #[.slice none 0 0] 23)
    case round =>
      obtain ⟨A, c, L, T, HS, HA⟩ := hrel
      rename World => wr
      by_cases hgo : L.length < 2 ∨ ∃ t d r, L = t :: d :: r ∧ headB t d = false
      · have HC : Aside0 (Calls Tryd.prog 14 #[.pointer (some ⟨w.heap.size, 0, none⟩), .pointer (some ⟨w.heap.size + 1, 0, none⟩)] wr fun e w' => e = .returned (.tuple #[.bool false, .int .i64 0]) ∧ w' = wr) := ⟨by
          rcases hgo with h | ⟨t, d, r, rfl, h⟩
          · exact split_short w wr A c L T HS.out h
          · exact split_stop w wr A c t d r T HS h⟩
        have HE : Aside0 ((T, L, (0 : Int)) = (r0, r1, r2)) := ⟨by
          rw [← HA.out.1]
          rcases hgo with h | ⟨t, d, r, rfl, h⟩
          · rw [splitA_short h]
          · rw [splitA_stop h]⟩
        obtain ⟨rfl, rfl, rfl⟩ : T = r0 ∧ L = r1 ∧ (0 : Int) = r2 := by cases HE.out; exact ⟨rfl, rfl, rfl⟩
        obtain ⟨v, hv, hR⟩ := HS.out.cn
        have hx : wr.cell? ⟨w.heap.size, 0, none⟩ = some (.slice A L.length c) := blk_cell HS.out.cl 0
        have hy : wr.cell? ⟨w.heap.size + 1, 0, none⟩ = some v := blk_cell hv 0
        have HRv := Aside0.mk hR
        have HV1 := Aside0.mk hv
        have HCL := Aside0.mk (Kd.C_below HS.out.row HS.out.below)
        have HB := Aside0.mk HS.out.below
        have HBS := Aside0.mk HS.out.below.size
        obtain ⟨nT, hnT⟩ : ∃ n, T.length = n := ⟨_, rfl⟩
        obtain ⟨nL, hnL⟩ : ∃ n, L.length = n := ⟨_, rfl⟩
        have HLL : Aside0 (nL ≤ 1000000) := ⟨by have := HA.out; have := HLN.out; omega⟩
        rw [hnL] at hx HCL
        clear hgo hv hR HE HA HV hmf hnT hnL
        go_wp2_with (fail)
        refine HC.out.mono ?_
        rintro e w' ⟨rfl, rfl⟩
        go_wp2
        go_region_law ((refine Kd.R_append_rows_step k30 (w0 := w) w.heap.size (by rfl) _ _ 22 30 (.agg #[.int .i64 0, .string ⟨#[]⟩, .int .u64 0]) 32 (by rfl) Tryd.underlying22 info_tok rfl (by decide) (by omega) (.slice none 0 0) ([] : List S30) L A nL c (fun _ => True) (fun _ => False) (by rfl) (by rfl) (Kd.R_nil _ _ _ _ _) (Kd.C_drewN HCL.out _) (fun _ _ h => h) (fun _ h => h.elim) (fun _ _ => trivial) (pw_below_drewN HB.out _) HBS.out (by have := HLL.out; simp; omega) ?_; intro v1 w3 hR3 hB3 hg3 hat3; have hb3 := blk_grown (blk_drewN HV1.out _) hg3 (by simp [Value.ownBlock]); have f0 : w3.cell? ⟨w.heap.size + 1, 0, none⟩ = some v := blk_cell hb3 0; have hRT := Kd.R_grown (Kd.R_drewN HRv.out _) hg3 (by intro k _; simp [Value.ownBlock])))
        all_goals
          have HRT := Aside0.mk hRT
          have HR3 := Aside0.mk hR3
          have HB3 := Aside0.mk hB3
          clear hRT hR3 hB3 hb3 hg3 hat3
          go_wp2
          go_ret3
          first
            | exact ⟨_, _, rfl, Kd.R_mono HRT.out (fun _ _ => trivial), HR3.out, HB3.out⟩
            | exact ⟨_, _, rfl, Kd.R_drewN (Kd.R_mono HRT.out (fun _ _ => trivial)) _, Kd.R_drewN HR3.out _, pw_below_drewN HB3.out _⟩
      · have hmo : ∃ t d r, L = t :: d :: r ∧ headB t d = true := by
          match L, hgo with
          | [], h => exact absurd (Or.inl (by simp)) h
          | [_], h => exact absurd (Or.inl (by simp)) h
          | t :: d :: r, h => 
            refine ⟨t, d, r, rfl, ?_⟩
            cases hb : headB t d
            · exact absurd (Or.inr ⟨t, d, r, rfl, hb⟩) h
            · rfl
        clear hgo
        obtain ⟨t, d, r, rfl, hb⟩ := hmo
        cases hl : labT t
        · have HE : Aside0 (([] : List ByteArray) = r0 ∧ ([] : List S30) = r1 ∧ (3 : Int) = r2) := ⟨by
            have := HA.out.1
            rw [splitA_bad hb hl] at this
            cases this
            exact ⟨rfl, rfl, rfl⟩⟩
          obtain ⟨rfl, rfl, rfl⟩ := HE.out
          have HC := Aside0.mk (split_bad w wr A c t d r T HS hb hl HT)
          clear HA HV hb hl hmf
          go_wp2_with (fail)
          refine HC.out.mono ?_
          rintro e w' ⟨rfl, hB⟩
          go_wp2
          go_ret3
          exact ⟨_, _, rfl, Kd.R_nil _ _ _ _ _, Kd.R_nil _ _ _ _ _, hB⟩
        · have HE : Aside0 (splitA r (T ++ [t.f1]) = (r0, r1, r2)) := ⟨by rw [← splitA_more hb hl]; exact HA.out.1⟩
          have HN : Aside0 (r.length < (t :: d :: r).length ∧ (t :: d :: r).length < gk ∧ (T ++ [t.f1]).length + r.length ≤ l0.length) := ⟨by have := HA.out; simp at this ⊢; omega⟩
          have HC := Aside0.mk (split_more w wr A c t d r T HS hb hl (by have := HA.out; have := HLN.out; omega) HT)
          clear HA HV hb hl hmf
          go_wp2_with (fail)
          refine HC.out.mono ?_
          rintro e w' ⟨rfl, A', c', hS⟩
          go_wp2
          go_roundg (t :: d :: r).length
          case measure => exact HN.out.2.1
          case rel => exact ⟨A', c', r, T ++ [t.f1], ⟨hS⟩, ⟨HE.out, HN.out.1, HN.out.2.2⟩⟩
  · rw [if_neg hlen] at h; cases h

/-! ### local_Is: function 11 -/
def local_Is.l0 : Nat → List (S38) → List (S38) → Int → Int → Option (Bool)
 | 0, _, _, _, _ => none
 | k + 1, x0, x5, x6, x7 => if x7 < x6 then (if 0 ≤ x7 then (if x7 < (x5.length : Int) then (if ((rd_T38 x5 x7).f0) < 0 then (some false) else (if ((rd_T38 x5 x7).f0) > 9999 then (some false) else (if ((rd_T38 x5 x7).f1) < 1 then (some false) else (if ((rd_T38 x5 x7).f2) < 0 then (some false) else (if ((rd_T38 x5 x7).f3) < 0 then (some false) else (if x7 > 0 then (if 0 ≤ (wrap64 (x7 - 1)) then (if (wrap64 (x7 - 1)) < (x0.length : Int) then (if ((rd_T38 x5 x7).f1) < ((rd_T38 x0 (wrap64 (x7 - 1))).f1) then (some false) else (local_Is.l0 k x0 x5 x6 (wrap64 (x7 + 1)))) else (none)) else (none)) else (local_Is.l0 k x0 x5 x6 (wrap64 (x7 + 1))))))))) else (none)) else (none)) else (some true)
def local_Is.f (k : Nat) (l0 : List (S38)) : Option (Bool) := local_Is.l0 k l0 l0 (l0.length : Int) 0
theorem local_Is.mono_l : ∀ k, (∀ y0 y1 y2 y3, LeO (local_Is.l0 k y0 y1 y2 y3) (local_Is.l0 (k + 1) y0 y1 y2 y3))
 | 0 => fun _ _ _ _ r h => by simp [local_Is.l0] at h
 | k + 1 => by
  have ih0 := local_Is.mono_l k
  ·intro y0 y1 y2 y3
   unfold local_Is.l0
   repeat' first
   | (with_reducible exact ih0 _ _ _ _)
   | (with_reducible exact LeO.refl _)
   | (with_reducible exact LeO.none _)
   | (with_reducible refine LeO.ite ?_ ?_)
   | (with_reducible refine LeO.bind ?_ (fun _ => ?_))
   | exact ih0 _ _ _ _
   | exact LeO.none _
   | refine LeO.ite ?_ ?_
   | refine LeO.bind ?_ (fun _ => ?_)
theorem local_Is.mono : ∀ a0 k, LeO (local_Is.f k a0) (local_Is.f (k + 1) a0) := by
 intro a0 k
 have ih0 := local_Is.mono_l k
 unfold local_Is.f
 repeat' first
   | (with_reducible exact ih0 _ _ _ _)
   | (with_reducible exact LeO.refl _)
   | (with_reducible exact LeO.none _)
   | (with_reducible refine LeO.ite ?_ ?_)
   | (with_reducible refine LeO.bind ?_ (fun _ => ?_))
   | exact ih0 _ _ _ _
   | exact LeO.none _
   | refine LeO.ite ?_ ?_
   | refine LeO.bind ?_ (fun _ => ?_)
set_option maxHeartbeats 8000000 in
set_option maxRecDepth 100000 in
theorem local_Is.calls (k : Nat) (A0 : Option Addr) (c0 : Nat) (l0 : List (S38)) (r : Bool) (w : World) (hr0 : Kd.C k38 w A0 l0.length l0) (hc0 : l0.length ≤ c0) (h : local_Is.f k l0 = some r) :
  Calls Tryd.prog 11 #[.slice A0 l0.length c0] w fun e w' => e = .returned (.bool r) ∧ Below w.heap.size w w' := by
 have hu38 := Tryd.underlying38
 have HR0 := Aside0.mk hr0
 have HC0 := Aside0.mk hc0
 clear hr0 hc0
 have HB := Aside0.mk (Below.refl w.heap.size w)
 have H : (local_Is.l0 k l0 l0 (l0.length : Int) 0) = some r := h
 clear h
 have H' := Aside0.mk H
 clear H
 go_enter Tryd.func11, Tryd.ntmps11
 go_wp2
 repeat (go_quiet (fail); try go_wp2)
 go_loopg [7] k (fun kq v7 w' => ∃ (x7_1 : Int), v7 = .int .i64 x7_1 ∧ Aside0 (local_Is.l0 kq l0 l0 (l0.length : Int) x7_1 = some r) ∧ Aside0 (kq ≤ k) ∧ Aside0 (Below w.heap.size w w'))
 case atStart => exact ⟨(0), (by first | rfl | (simp; done) | (simp [*]; done)), H', ⟨Nat.le_refl _⟩, ⟨by repeat (first | (with_reducible first | exact HB.out | apply below_alloc | apply pw_below_drewN | apply below_drew1) | exact HB.out)⟩⟩
 case round =>
  clear H'
  try clear c1
  obtain ⟨x7_1, rfl, HA, HK1, HB⟩ := hrel
  cases gk with
  | zero => exact absurd HA.out (by simp [local_Is.l0])
  | succ k1 =>
   have H := HA.out
   clear HA
   simp only [local_Is.l0] at H
   by_cases c2 : x7_1 < (l0.length : Int)
   ·rw [if_pos c2] at H
    have c2b0 : decide (x7_1 < (l0.length : Int)) = true := decide_eq_true c2
    clear c2
    by_cases c3 : 0 ≤ x7_1
    ·rw [if_pos c3] at H
     have c3b0 : decide (0 ≤ x7_1) = true := decide_eq_true c3
     clear c3
     by_cases c4 : x7_1 < (l0.length : Int)
     ·rw [if_pos c4] at H
      have c4b0 : decide (x7_1 < (l0.length : Int)) = true := decide_eq_true c4
      clear c4
      by_cases c5 : ((rd_T38 l0 x7_1).f0) < 0
      ·rw [if_pos c5] at H
       have c5b0 : decide (((rd_T38 l0 x7_1).f0) < 0) = true := decide_eq_true c5
       clear c5
       obtain rfl := Option.some.inj H
       have p165 : 0 ≤ (x7_1 : Int) := of_decide_eq_true (by first | (with_reducible assumption) | assumption)
       have q165 : x7_1 < (l0.length : Int) := of_decide_eq_true (by first | (with_reducible assumption) | assumption)
       obtain ⟨ad165, e165, hx165_0, hx165_1, hx165_2, hx165_3⟩ := at_T38 HR0.out x7_1 p165 q165
       cases e165
       replace hx165_0 := (HB.out.cell (World.block_lt_of_cell? w _ hx165_0)).trans hx165_0
       replace hx165_1 := (HB.out.cell (World.block_lt_of_cell? w _ hx165_1)).trans hx165_1
       replace hx165_2 := (HB.out.cell (World.block_lt_of_cell? w _ hx165_2)).trans hx165_2
       replace hx165_3 := (HB.out.cell (World.block_lt_of_cell? w _ hx165_3)).trans hx165_3
       replace p165 := eq_true p165
       replace q165 := eq_true q165
       go_wp2_with (first | ((with_reducible refine gate_dst (N := 4) rfl ?_); refine box_event ?hg (N := 4) ?hd (cs := #[.int .i64 0, .int .i64 0, .int .i64 0, .int .i64 0]) (t := 38) ?hr ?_; (case hd => rfl); (case hg => rfl); (case hr => first | (go_simp; done) | (go_simp; rfl)); intro gb166 hg w6 hbox hb; have n0_ := Aside0.mk (below_step (by repeat (first | (with_reducible first | exact HB.out | apply below_alloc | apply pw_below_drewN | apply below_drew1) | exact HB.out)) hb); have n1_ := Aside0.mk (hbox); have n2_ := Aside0.mk ((by rw [hg]; exact (below_size (by repeat (first | (with_reducible first | exact HB.out | apply below_alloc | apply pw_below_drewN | apply below_drew1) | exact HB.out))) : w.heap.size ≤ gb166)); have n3_ := Aside0.mk ((by rw [hg]; exact (below_size (by repeat (first | (with_reducible first | exact HB.out | apply below_alloc | apply pw_below_drewN | apply below_drew1) | exact HB.out))) : w.heap.size ≤ gb166)); clear HB; have HB := n0_; have BK166 := n1_; have GW166 := n2_; have GE166 := n3_; clear n0_ n1_ n2_ n3_; clear hb hbox hg; have hcz7_0 : w6.cell? ⟨gb166, 0, none⟩ = some (.int .i64 0) := (blk_cell BK166.out 0).trans rfl; have hcz7_1 : w6.cell? ⟨gb166, 1, none⟩ = some (.int .i64 0) := (blk_cell BK166.out 1).trans rfl; have hcz7_2 : w6.cell? ⟨gb166, 2, none⟩ = some (.int .i64 0) := (blk_cell BK166.out 2).trans rfl; have hcz7_3 : w6.cell? ⟨gb166, 3, none⟩ = some (.int .i64 0) := (blk_cell BK166.out 3).trans rfl; have hfz7_0 := blk_frozen BK166.out 0; have hfz7_1 := blk_frozen BK166.out 1; have hfz7_2 := blk_frozen BK166.out 2; have hfz7_3 := blk_frozen BK166.out 3))
       repeat (go_quiet (first | ((with_reducible refine gate_dst (N := 4) rfl ?_); refine box_event ?hg (N := 4) ?hd (cs := #[.int .i64 0, .int .i64 0, .int .i64 0, .int .i64 0]) (t := 38) ?hr ?_; (case hd => rfl); (case hg => rfl); (case hr => first | (go_simp; done) | (go_simp; rfl)); intro gb166 hg w6 hbox hb; have n0_ := Aside0.mk (below_step (by repeat (first | (with_reducible first | exact HB.out | apply below_alloc | apply pw_below_drewN | apply below_drew1) | exact HB.out)) hb); have n1_ := Aside0.mk (hbox); have n2_ := Aside0.mk ((by rw [hg]; exact (below_size (by repeat (first | (with_reducible first | exact HB.out | apply below_alloc | apply pw_below_drewN | apply below_drew1) | exact HB.out))) : w.heap.size ≤ gb166)); have n3_ := Aside0.mk ((by rw [hg]; exact (below_size (by repeat (first | (with_reducible first | exact HB.out | apply below_alloc | apply pw_below_drewN | apply below_drew1) | exact HB.out))) : w.heap.size ≤ gb166)); clear HB; have HB := n0_; have BK166 := n1_; have GW166 := n2_; have GE166 := n3_; clear n0_ n1_ n2_ n3_; clear hb hbox hg; have hcz7_0 : w6.cell? ⟨gb166, 0, none⟩ = some (.int .i64 0) := (blk_cell BK166.out 0).trans rfl; have hcz7_1 : w6.cell? ⟨gb166, 1, none⟩ = some (.int .i64 0) := (blk_cell BK166.out 1).trans rfl; have hcz7_2 : w6.cell? ⟨gb166, 2, none⟩ = some (.int .i64 0) := (blk_cell BK166.out 2).trans rfl; have hcz7_3 : w6.cell? ⟨gb166, 3, none⟩ = some (.int .i64 0) := (blk_cell BK166.out 3).trans rfl; have hfz7_0 := blk_frozen BK166.out 0; have hfz7_1 := blk_frozen BK166.out 1; have hfz7_2 := blk_frozen BK166.out 2; have hfz7_3 := blk_frozen BK166.out 3)); try go_wp2_with (first | ((with_reducible refine gate_dst (N := 4) rfl ?_); refine box_event ?hg (N := 4) ?hd (cs := #[.int .i64 0, .int .i64 0, .int .i64 0, .int .i64 0]) (t := 38) ?hr ?_; (case hd => rfl); (case hg => rfl); (case hr => first | (go_simp; done) | (go_simp; rfl)); intro gb166 hg w6 hbox hb; have n0_ := Aside0.mk (below_step (by repeat (first | (with_reducible first | exact HB.out | apply below_alloc | apply pw_below_drewN | apply below_drew1) | exact HB.out)) hb); have n1_ := Aside0.mk (hbox); have n2_ := Aside0.mk ((by rw [hg]; exact (below_size (by repeat (first | (with_reducible first | exact HB.out | apply below_alloc | apply pw_below_drewN | apply below_drew1) | exact HB.out))) : w.heap.size ≤ gb166)); have n3_ := Aside0.mk ((by rw [hg]; exact (below_size (by repeat (first | (with_reducible first | exact HB.out | apply below_alloc | apply pw_below_drewN | apply below_drew1) | exact HB.out))) : w.heap.size ≤ gb166)); clear HB; have HB := n0_; have BK166 := n1_; have GW166 := n2_; have GE166 := n3_; clear n0_ n1_ n2_ n3_; clear hb hbox hg; have hcz7_0 : w6.cell? ⟨gb166, 0, none⟩ = some (.int .i64 0) := (blk_cell BK166.out 0).trans rfl; have hcz7_1 : w6.cell? ⟨gb166, 1, none⟩ = some (.int .i64 0) := (blk_cell BK166.out 1).trans rfl; have hcz7_2 : w6.cell? ⟨gb166, 2, none⟩ = some (.int .i64 0) := (blk_cell BK166.out 2).trans rfl; have hcz7_3 : w6.cell? ⟨gb166, 3, none⟩ = some (.int .i64 0) := (blk_cell BK166.out 3).trans rfl; have hfz7_0 := blk_frozen BK166.out 0; have hfz7_1 := blk_frozen BK166.out 1; have hfz7_2 := blk_frozen BK166.out 2; have hfz7_3 := blk_frozen BK166.out 3)))
       go_ret
       exact ⟨by first | rfl | (simp [errW_none, errW_some] <;> rfl) | (simp [*, errW_none, errW_some] <;> rfl), by repeat (first | (with_reducible first | exact HB.out | apply below_alloc | apply pw_below_drewN | apply below_drew1 | refine below_set ?_ GE166.out) | exact HB.out)⟩
      ·rw [if_neg c5] at H
       have c5b0 : decide (((rd_T38 l0 x7_1).f0) < 0) = false := decide_eq_false c5
       clear c5
       by_cases c8 : ((rd_T38 l0 x7_1).f0) > 9999
       ·rw [if_pos c8] at H
        have c8b0 : decide (9999 < ((rd_T38 l0 x7_1).f0)) = true := decide_eq_true c8
        clear c8
        obtain rfl := Option.some.inj H
        have p165 : 0 ≤ (x7_1 : Int) := of_decide_eq_true (by first | (with_reducible assumption) | assumption)
        have q165 : x7_1 < (l0.length : Int) := of_decide_eq_true (by first | (with_reducible assumption) | assumption)
        obtain ⟨ad165, e165, hx165_0, hx165_1, hx165_2, hx165_3⟩ := at_T38 HR0.out x7_1 p165 q165
        cases e165
        replace hx165_0 := (HB.out.cell (World.block_lt_of_cell? w _ hx165_0)).trans hx165_0
        replace hx165_1 := (HB.out.cell (World.block_lt_of_cell? w _ hx165_1)).trans hx165_1
        replace hx165_2 := (HB.out.cell (World.block_lt_of_cell? w _ hx165_2)).trans hx165_2
        replace hx165_3 := (HB.out.cell (World.block_lt_of_cell? w _ hx165_3)).trans hx165_3
        replace p165 := eq_true p165
        replace q165 := eq_true q165
        go_wp2_with (first | ((with_reducible refine gate_dst (N := 4) rfl ?_); refine box_event ?hg (N := 4) ?hd (cs := #[.int .i64 0, .int .i64 0, .int .i64 0, .int .i64 0]) (t := 38) ?hr ?_; (case hd => rfl); (case hg => rfl); (case hr => first | (go_simp; done) | (go_simp; rfl)); intro gb166 hg w9 hbox hb; have n0_ := Aside0.mk (below_step (by repeat (first | (with_reducible first | exact HB.out | apply below_alloc | apply pw_below_drewN | apply below_drew1) | exact HB.out)) hb); have n1_ := Aside0.mk (hbox); have n2_ := Aside0.mk ((by rw [hg]; exact (below_size (by repeat (first | (with_reducible first | exact HB.out | apply below_alloc | apply pw_below_drewN | apply below_drew1) | exact HB.out))) : w.heap.size ≤ gb166)); have n3_ := Aside0.mk ((by rw [hg]; exact (below_size (by repeat (first | (with_reducible first | exact HB.out | apply below_alloc | apply pw_below_drewN | apply below_drew1) | exact HB.out))) : w.heap.size ≤ gb166)); clear HB; have HB := n0_; have BK166 := n1_; have GW166 := n2_; have GE166 := n3_; clear n0_ n1_ n2_ n3_; clear hb hbox hg; have hcz10_0 : w9.cell? ⟨gb166, 0, none⟩ = some (.int .i64 0) := (blk_cell BK166.out 0).trans rfl; have hcz10_1 : w9.cell? ⟨gb166, 1, none⟩ = some (.int .i64 0) := (blk_cell BK166.out 1).trans rfl; have hcz10_2 : w9.cell? ⟨gb166, 2, none⟩ = some (.int .i64 0) := (blk_cell BK166.out 2).trans rfl; have hcz10_3 : w9.cell? ⟨gb166, 3, none⟩ = some (.int .i64 0) := (blk_cell BK166.out 3).trans rfl; have hfz10_0 := blk_frozen BK166.out 0; have hfz10_1 := blk_frozen BK166.out 1; have hfz10_2 := blk_frozen BK166.out 2; have hfz10_3 := blk_frozen BK166.out 3))
        repeat (go_quiet (first | ((with_reducible refine gate_dst (N := 4) rfl ?_); refine box_event ?hg (N := 4) ?hd (cs := #[.int .i64 0, .int .i64 0, .int .i64 0, .int .i64 0]) (t := 38) ?hr ?_; (case hd => rfl); (case hg => rfl); (case hr => first | (go_simp; done) | (go_simp; rfl)); intro gb166 hg w9 hbox hb; have n0_ := Aside0.mk (below_step (by repeat (first | (with_reducible first | exact HB.out | apply below_alloc | apply pw_below_drewN | apply below_drew1) | exact HB.out)) hb); have n1_ := Aside0.mk (hbox); have n2_ := Aside0.mk ((by rw [hg]; exact (below_size (by repeat (first | (with_reducible first | exact HB.out | apply below_alloc | apply pw_below_drewN | apply below_drew1) | exact HB.out))) : w.heap.size ≤ gb166)); have n3_ := Aside0.mk ((by rw [hg]; exact (below_size (by repeat (first | (with_reducible first | exact HB.out | apply below_alloc | apply pw_below_drewN | apply below_drew1) | exact HB.out))) : w.heap.size ≤ gb166)); clear HB; have HB := n0_; have BK166 := n1_; have GW166 := n2_; have GE166 := n3_; clear n0_ n1_ n2_ n3_; clear hb hbox hg; have hcz10_0 : w9.cell? ⟨gb166, 0, none⟩ = some (.int .i64 0) := (blk_cell BK166.out 0).trans rfl; have hcz10_1 : w9.cell? ⟨gb166, 1, none⟩ = some (.int .i64 0) := (blk_cell BK166.out 1).trans rfl; have hcz10_2 : w9.cell? ⟨gb166, 2, none⟩ = some (.int .i64 0) := (blk_cell BK166.out 2).trans rfl; have hcz10_3 : w9.cell? ⟨gb166, 3, none⟩ = some (.int .i64 0) := (blk_cell BK166.out 3).trans rfl; have hfz10_0 := blk_frozen BK166.out 0; have hfz10_1 := blk_frozen BK166.out 1; have hfz10_2 := blk_frozen BK166.out 2; have hfz10_3 := blk_frozen BK166.out 3)); try go_wp2_with (first | ((with_reducible refine gate_dst (N := 4) rfl ?_); refine box_event ?hg (N := 4) ?hd (cs := #[.int .i64 0, .int .i64 0, .int .i64 0, .int .i64 0]) (t := 38) ?hr ?_; (case hd => rfl); (case hg => rfl); (case hr => first | (go_simp; done) | (go_simp; rfl)); intro gb166 hg w9 hbox hb; have n0_ := Aside0.mk (below_step (by repeat (first | (with_reducible first | exact HB.out | apply below_alloc | apply pw_below_drewN | apply below_drew1) | exact HB.out)) hb); have n1_ := Aside0.mk (hbox); have n2_ := Aside0.mk ((by rw [hg]; exact (below_size (by repeat (first | (with_reducible first | exact HB.out | apply below_alloc | apply pw_below_drewN | apply below_drew1) | exact HB.out))) : w.heap.size ≤ gb166)); have n3_ := Aside0.mk ((by rw [hg]; exact (below_size (by repeat (first | (with_reducible first | exact HB.out | apply below_alloc | apply pw_below_drewN | apply below_drew1) | exact HB.out))) : w.heap.size ≤ gb166)); clear HB; have HB := n0_; have BK166 := n1_; have GW166 := n2_; have GE166 := n3_; clear n0_ n1_ n2_ n3_; clear hb hbox hg; have hcz10_0 : w9.cell? ⟨gb166, 0, none⟩ = some (.int .i64 0) := (blk_cell BK166.out 0).trans rfl; have hcz10_1 : w9.cell? ⟨gb166, 1, none⟩ = some (.int .i64 0) := (blk_cell BK166.out 1).trans rfl; have hcz10_2 : w9.cell? ⟨gb166, 2, none⟩ = some (.int .i64 0) := (blk_cell BK166.out 2).trans rfl; have hcz10_3 : w9.cell? ⟨gb166, 3, none⟩ = some (.int .i64 0) := (blk_cell BK166.out 3).trans rfl; have hfz10_0 := blk_frozen BK166.out 0; have hfz10_1 := blk_frozen BK166.out 1; have hfz10_2 := blk_frozen BK166.out 2; have hfz10_3 := blk_frozen BK166.out 3)))
        go_ret
        exact ⟨by first | rfl | (simp [errW_none, errW_some] <;> rfl) | (simp [*, errW_none, errW_some] <;> rfl), by repeat (first | (with_reducible first | exact HB.out | apply below_alloc | apply pw_below_drewN | apply below_drew1 | refine below_set ?_ GE166.out) | exact HB.out)⟩
       ·rw [if_neg c8] at H
        have c8b0 : decide (9999 < ((rd_T38 l0 x7_1).f0)) = false := decide_eq_false c8
        clear c8
        by_cases c11 : ((rd_T38 l0 x7_1).f1) < 1
        ·rw [if_pos c11] at H
         have c11b0 : decide (((rd_T38 l0 x7_1).f1) < 1) = true := decide_eq_true c11
         clear c11
         obtain rfl := Option.some.inj H
         have p165 : 0 ≤ (x7_1 : Int) := of_decide_eq_true (by first | (with_reducible assumption) | assumption)
         have q165 : x7_1 < (l0.length : Int) := of_decide_eq_true (by first | (with_reducible assumption) | assumption)
         obtain ⟨ad165, e165, hx165_0, hx165_1, hx165_2, hx165_3⟩ := at_T38 HR0.out x7_1 p165 q165
         cases e165
         replace hx165_0 := (HB.out.cell (World.block_lt_of_cell? w _ hx165_0)).trans hx165_0
         replace hx165_1 := (HB.out.cell (World.block_lt_of_cell? w _ hx165_1)).trans hx165_1
         replace hx165_2 := (HB.out.cell (World.block_lt_of_cell? w _ hx165_2)).trans hx165_2
         replace hx165_3 := (HB.out.cell (World.block_lt_of_cell? w _ hx165_3)).trans hx165_3
         replace p165 := eq_true p165
         replace q165 := eq_true q165
         go_wp2_with (first | ((with_reducible refine gate_dst (N := 4) rfl ?_); refine box_event ?hg (N := 4) ?hd (cs := #[.int .i64 0, .int .i64 0, .int .i64 0, .int .i64 0]) (t := 38) ?hr ?_; (case hd => rfl); (case hg => rfl); (case hr => first | (go_simp; done) | (go_simp; rfl)); intro gb166 hg w12 hbox hb; have n0_ := Aside0.mk (below_step (by repeat (first | (with_reducible first | exact HB.out | apply below_alloc | apply pw_below_drewN | apply below_drew1) | exact HB.out)) hb); have n1_ := Aside0.mk (hbox); have n2_ := Aside0.mk ((by rw [hg]; exact (below_size (by repeat (first | (with_reducible first | exact HB.out | apply below_alloc | apply pw_below_drewN | apply below_drew1) | exact HB.out))) : w.heap.size ≤ gb166)); have n3_ := Aside0.mk ((by rw [hg]; exact (below_size (by repeat (first | (with_reducible first | exact HB.out | apply below_alloc | apply pw_below_drewN | apply below_drew1) | exact HB.out))) : w.heap.size ≤ gb166)); clear HB; have HB := n0_; have BK166 := n1_; have GW166 := n2_; have GE166 := n3_; clear n0_ n1_ n2_ n3_; clear hb hbox hg; have hcz13_0 : w12.cell? ⟨gb166, 0, none⟩ = some (.int .i64 0) := (blk_cell BK166.out 0).trans rfl; have hcz13_1 : w12.cell? ⟨gb166, 1, none⟩ = some (.int .i64 0) := (blk_cell BK166.out 1).trans rfl; have hcz13_2 : w12.cell? ⟨gb166, 2, none⟩ = some (.int .i64 0) := (blk_cell BK166.out 2).trans rfl; have hcz13_3 : w12.cell? ⟨gb166, 3, none⟩ = some (.int .i64 0) := (blk_cell BK166.out 3).trans rfl; have hfz13_0 := blk_frozen BK166.out 0; have hfz13_1 := blk_frozen BK166.out 1; have hfz13_2 := blk_frozen BK166.out 2; have hfz13_3 := blk_frozen BK166.out 3))
         repeat (go_quiet (first | ((with_reducible refine gate_dst (N := 4) rfl ?_); refine box_event ?hg (N := 4) ?hd (cs := #[.int .i64 0, .int .i64 0, .int .i64 0, .int .i64 0]) (t := 38) ?hr ?_; (case hd => rfl); (case hg => rfl); (case hr => first | (go_simp; done) | (go_simp; rfl)); intro gb166 hg w12 hbox hb; have n0_ := Aside0.mk (below_step (by repeat (first | (with_reducible first | exact HB.out | apply below_alloc | apply pw_below_drewN | apply below_drew1) | exact HB.out)) hb); have n1_ := Aside0.mk (hbox); have n2_ := Aside0.mk ((by rw [hg]; exact (below_size (by repeat (first | (with_reducible first | exact HB.out | apply below_alloc | apply pw_below_drewN | apply below_drew1) | exact HB.out))) : w.heap.size ≤ gb166)); have n3_ := Aside0.mk ((by rw [hg]; exact (below_size (by repeat (first | (with_reducible first | exact HB.out | apply below_alloc | apply pw_below_drewN | apply below_drew1) | exact HB.out))) : w.heap.size ≤ gb166)); clear HB; have HB := n0_; have BK166 := n1_; have GW166 := n2_; have GE166 := n3_; clear n0_ n1_ n2_ n3_; clear hb hbox hg; have hcz13_0 : w12.cell? ⟨gb166, 0, none⟩ = some (.int .i64 0) := (blk_cell BK166.out 0).trans rfl; have hcz13_1 : w12.cell? ⟨gb166, 1, none⟩ = some (.int .i64 0) := (blk_cell BK166.out 1).trans rfl; have hcz13_2 : w12.cell? ⟨gb166, 2, none⟩ = some (.int .i64 0) := (blk_cell BK166.out 2).trans rfl; have hcz13_3 : w12.cell? ⟨gb166, 3, none⟩ = some (.int .i64 0) := (blk_cell BK166.out 3).trans rfl; have hfz13_0 := blk_frozen BK166.out 0; have hfz13_1 := blk_frozen BK166.out 1; have hfz13_2 := blk_frozen BK166.out 2; have hfz13_3 := blk_frozen BK166.out 3)); try go_wp2_with (first | ((with_reducible refine gate_dst (N := 4) rfl ?_); refine box_event ?hg (N := 4) ?hd (cs := #[.int .i64 0, .int .i64 0, .int .i64 0, .int .i64 0]) (t := 38) ?hr ?_; (case hd => rfl); (case hg => rfl); (case hr => first | (go_simp; done) | (go_simp; rfl)); intro gb166 hg w12 hbox hb; have n0_ := Aside0.mk (below_step (by repeat (first | (with_reducible first | exact HB.out | apply below_alloc | apply pw_below_drewN | apply below_drew1) | exact HB.out)) hb); have n1_ := Aside0.mk (hbox); have n2_ := Aside0.mk ((by rw [hg]; exact (below_size (by repeat (first | (with_reducible first | exact HB.out | apply below_alloc | apply pw_below_drewN | apply below_drew1) | exact HB.out))) : w.heap.size ≤ gb166)); have n3_ := Aside0.mk ((by rw [hg]; exact (below_size (by repeat (first | (with_reducible first | exact HB.out | apply below_alloc | apply pw_below_drewN | apply below_drew1) | exact HB.out))) : w.heap.size ≤ gb166)); clear HB; have HB := n0_; have BK166 := n1_; have GW166 := n2_; have GE166 := n3_; clear n0_ n1_ n2_ n3_; clear hb hbox hg; have hcz13_0 : w12.cell? ⟨gb166, 0, none⟩ = some (.int .i64 0) := (blk_cell BK166.out 0).trans rfl; have hcz13_1 : w12.cell? ⟨gb166, 1, none⟩ = some (.int .i64 0) := (blk_cell BK166.out 1).trans rfl; have hcz13_2 : w12.cell? ⟨gb166, 2, none⟩ = some (.int .i64 0) := (blk_cell BK166.out 2).trans rfl; have hcz13_3 : w12.cell? ⟨gb166, 3, none⟩ = some (.int .i64 0) := (blk_cell BK166.out 3).trans rfl; have hfz13_0 := blk_frozen BK166.out 0; have hfz13_1 := blk_frozen BK166.out 1; have hfz13_2 := blk_frozen BK166.out 2; have hfz13_3 := blk_frozen BK166.out 3)))
         go_ret
         exact ⟨by first | rfl | (simp [errW_none, errW_some] <;> rfl) | (simp [*, errW_none, errW_some] <;> rfl), by repeat (first | (with_reducible first | exact HB.out | apply below_alloc | apply pw_below_drewN | apply below_drew1 | refine below_set ?_ GE166.out) | exact HB.out)⟩
        ·rw [if_neg c11] at H
         have c11b0 : decide (((rd_T38 l0 x7_1).f1) < 1) = false := decide_eq_false c11
         clear c11
         by_cases c14 : ((rd_T38 l0 x7_1).f2) < 0
         ·rw [if_pos c14] at H
          have c14b0 : decide (((rd_T38 l0 x7_1).f2) < 0) = true := decide_eq_true c14
          clear c14
          obtain rfl := Option.some.inj H
          have p165 : 0 ≤ (x7_1 : Int) := of_decide_eq_true (by first | (with_reducible assumption) | assumption)
          have q165 : x7_1 < (l0.length : Int) := of_decide_eq_true (by first | (with_reducible assumption) | assumption)
          obtain ⟨ad165, e165, hx165_0, hx165_1, hx165_2, hx165_3⟩ := at_T38 HR0.out x7_1 p165 q165
          cases e165
          replace hx165_0 := (HB.out.cell (World.block_lt_of_cell? w _ hx165_0)).trans hx165_0
          replace hx165_1 := (HB.out.cell (World.block_lt_of_cell? w _ hx165_1)).trans hx165_1
          replace hx165_2 := (HB.out.cell (World.block_lt_of_cell? w _ hx165_2)).trans hx165_2
          replace hx165_3 := (HB.out.cell (World.block_lt_of_cell? w _ hx165_3)).trans hx165_3
          replace p165 := eq_true p165
          replace q165 := eq_true q165
          go_wp2_with (first | ((with_reducible refine gate_dst (N := 4) rfl ?_); refine box_event ?hg (N := 4) ?hd (cs := #[.int .i64 0, .int .i64 0, .int .i64 0, .int .i64 0]) (t := 38) ?hr ?_; (case hd => rfl); (case hg => rfl); (case hr => first | (go_simp; done) | (go_simp; rfl)); intro gb166 hg w15 hbox hb; have n0_ := Aside0.mk (below_step (by repeat (first | (with_reducible first | exact HB.out | apply below_alloc | apply pw_below_drewN | apply below_drew1) | exact HB.out)) hb); have n1_ := Aside0.mk (hbox); have n2_ := Aside0.mk ((by rw [hg]; exact (below_size (by repeat (first | (with_reducible first | exact HB.out | apply below_alloc | apply pw_below_drewN | apply below_drew1) | exact HB.out))) : w.heap.size ≤ gb166)); have n3_ := Aside0.mk ((by rw [hg]; exact (below_size (by repeat (first | (with_reducible first | exact HB.out | apply below_alloc | apply pw_below_drewN | apply below_drew1) | exact HB.out))) : w.heap.size ≤ gb166)); clear HB; have HB := n0_; have BK166 := n1_; have GW166 := n2_; have GE166 := n3_; clear n0_ n1_ n2_ n3_; clear hb hbox hg; have hcz16_0 : w15.cell? ⟨gb166, 0, none⟩ = some (.int .i64 0) := (blk_cell BK166.out 0).trans rfl; have hcz16_1 : w15.cell? ⟨gb166, 1, none⟩ = some (.int .i64 0) := (blk_cell BK166.out 1).trans rfl; have hcz16_2 : w15.cell? ⟨gb166, 2, none⟩ = some (.int .i64 0) := (blk_cell BK166.out 2).trans rfl; have hcz16_3 : w15.cell? ⟨gb166, 3, none⟩ = some (.int .i64 0) := (blk_cell BK166.out 3).trans rfl; have hfz16_0 := blk_frozen BK166.out 0; have hfz16_1 := blk_frozen BK166.out 1; have hfz16_2 := blk_frozen BK166.out 2; have hfz16_3 := blk_frozen BK166.out 3))
          repeat (go_quiet (first | ((with_reducible refine gate_dst (N := 4) rfl ?_); refine box_event ?hg (N := 4) ?hd (cs := #[.int .i64 0, .int .i64 0, .int .i64 0, .int .i64 0]) (t := 38) ?hr ?_; (case hd => rfl); (case hg => rfl); (case hr => first | (go_simp; done) | (go_simp; rfl)); intro gb166 hg w15 hbox hb; have n0_ := Aside0.mk (below_step (by repeat (first | (with_reducible first | exact HB.out | apply below_alloc | apply pw_below_drewN | apply below_drew1) | exact HB.out)) hb); have n1_ := Aside0.mk (hbox); have n2_ := Aside0.mk ((by rw [hg]; exact (below_size (by repeat (first | (with_reducible first | exact HB.out | apply below_alloc | apply pw_below_drewN | apply below_drew1) | exact HB.out))) : w.heap.size ≤ gb166)); have n3_ := Aside0.mk ((by rw [hg]; exact (below_size (by repeat (first | (with_reducible first | exact HB.out | apply below_alloc | apply pw_below_drewN | apply below_drew1) | exact HB.out))) : w.heap.size ≤ gb166)); clear HB; have HB := n0_; have BK166 := n1_; have GW166 := n2_; have GE166 := n3_; clear n0_ n1_ n2_ n3_; clear hb hbox hg; have hcz16_0 : w15.cell? ⟨gb166, 0, none⟩ = some (.int .i64 0) := (blk_cell BK166.out 0).trans rfl; have hcz16_1 : w15.cell? ⟨gb166, 1, none⟩ = some (.int .i64 0) := (blk_cell BK166.out 1).trans rfl; have hcz16_2 : w15.cell? ⟨gb166, 2, none⟩ = some (.int .i64 0) := (blk_cell BK166.out 2).trans rfl; have hcz16_3 : w15.cell? ⟨gb166, 3, none⟩ = some (.int .i64 0) := (blk_cell BK166.out 3).trans rfl; have hfz16_0 := blk_frozen BK166.out 0; have hfz16_1 := blk_frozen BK166.out 1; have hfz16_2 := blk_frozen BK166.out 2; have hfz16_3 := blk_frozen BK166.out 3)); try go_wp2_with (first | ((with_reducible refine gate_dst (N := 4) rfl ?_); refine box_event ?hg (N := 4) ?hd (cs := #[.int .i64 0, .int .i64 0, .int .i64 0, .int .i64 0]) (t := 38) ?hr ?_; (case hd => rfl); (case hg => rfl); (case hr => first | (go_simp; done) | (go_simp; rfl)); intro gb166 hg w15 hbox hb; have n0_ := Aside0.mk (below_step (by repeat (first | (with_reducible first | exact HB.out | apply below_alloc | apply pw_below_drewN | apply below_drew1) | exact HB.out)) hb); have n1_ := Aside0.mk (hbox); have n2_ := Aside0.mk ((by rw [hg]; exact (below_size (by repeat (first | (with_reducible first | exact HB.out | apply below_alloc | apply pw_below_drewN | apply below_drew1) | exact HB.out))) : w.heap.size ≤ gb166)); have n3_ := Aside0.mk ((by rw [hg]; exact (below_size (by repeat (first | (with_reducible first | exact HB.out | apply below_alloc | apply pw_below_drewN | apply below_drew1) | exact HB.out))) : w.heap.size ≤ gb166)); clear HB; have HB := n0_; have BK166 := n1_; have GW166 := n2_; have GE166 := n3_; clear n0_ n1_ n2_ n3_; clear hb hbox hg; have hcz16_0 : w15.cell? ⟨gb166, 0, none⟩ = some (.int .i64 0) := (blk_cell BK166.out 0).trans rfl; have hcz16_1 : w15.cell? ⟨gb166, 1, none⟩ = some (.int .i64 0) := (blk_cell BK166.out 1).trans rfl; have hcz16_2 : w15.cell? ⟨gb166, 2, none⟩ = some (.int .i64 0) := (blk_cell BK166.out 2).trans rfl; have hcz16_3 : w15.cell? ⟨gb166, 3, none⟩ = some (.int .i64 0) := (blk_cell BK166.out 3).trans rfl; have hfz16_0 := blk_frozen BK166.out 0; have hfz16_1 := blk_frozen BK166.out 1; have hfz16_2 := blk_frozen BK166.out 2; have hfz16_3 := blk_frozen BK166.out 3)))
          go_ret
          exact ⟨by first | rfl | (simp [errW_none, errW_some] <;> rfl) | (simp [*, errW_none, errW_some] <;> rfl), by repeat (first | (with_reducible first | exact HB.out | apply below_alloc | apply pw_below_drewN | apply below_drew1 | refine below_set ?_ GE166.out) | exact HB.out)⟩
         ·rw [if_neg c14] at H
          have c14b0 : decide (((rd_T38 l0 x7_1).f2) < 0) = false := decide_eq_false c14
          clear c14
          by_cases c17 : ((rd_T38 l0 x7_1).f3) < 0
          ·rw [if_pos c17] at H
           have c17b0 : decide (((rd_T38 l0 x7_1).f3) < 0) = true := decide_eq_true c17
           clear c17
           obtain rfl := Option.some.inj H
           have p165 : 0 ≤ (x7_1 : Int) := of_decide_eq_true (by first | (with_reducible assumption) | assumption)
           have q165 : x7_1 < (l0.length : Int) := of_decide_eq_true (by first | (with_reducible assumption) | assumption)
           obtain ⟨ad165, e165, hx165_0, hx165_1, hx165_2, hx165_3⟩ := at_T38 HR0.out x7_1 p165 q165
           cases e165
           replace hx165_0 := (HB.out.cell (World.block_lt_of_cell? w _ hx165_0)).trans hx165_0
           replace hx165_1 := (HB.out.cell (World.block_lt_of_cell? w _ hx165_1)).trans hx165_1
           replace hx165_2 := (HB.out.cell (World.block_lt_of_cell? w _ hx165_2)).trans hx165_2
           replace hx165_3 := (HB.out.cell (World.block_lt_of_cell? w _ hx165_3)).trans hx165_3
           replace p165 := eq_true p165
           replace q165 := eq_true q165
           go_wp2_with (first | ((with_reducible refine gate_dst (N := 4) rfl ?_); refine box_event ?hg (N := 4) ?hd (cs := #[.int .i64 0, .int .i64 0, .int .i64 0, .int .i64 0]) (t := 38) ?hr ?_; (case hd => rfl); (case hg => rfl); (case hr => first | (go_simp; done) | (go_simp; rfl)); intro gb166 hg w18 hbox hb; have n0_ := Aside0.mk (below_step (by repeat (first | (with_reducible first | exact HB.out | apply below_alloc | apply pw_below_drewN | apply below_drew1) | exact HB.out)) hb); have n1_ := Aside0.mk (hbox); have n2_ := Aside0.mk ((by rw [hg]; exact (below_size (by repeat (first | (with_reducible first | exact HB.out | apply below_alloc | apply pw_below_drewN | apply below_drew1) | exact HB.out))) : w.heap.size ≤ gb166)); have n3_ := Aside0.mk ((by rw [hg]; exact (below_size (by repeat (first | (with_reducible first | exact HB.out | apply below_alloc | apply pw_below_drewN | apply below_drew1) | exact HB.out))) : w.heap.size ≤ gb166)); clear HB; have HB := n0_; have BK166 := n1_; have GW166 := n2_; have GE166 := n3_; clear n0_ n1_ n2_ n3_; clear hb hbox hg; have hcz19_0 : w18.cell? ⟨gb166, 0, none⟩ = some (.int .i64 0) := (blk_cell BK166.out 0).trans rfl; have hcz19_1 : w18.cell? ⟨gb166, 1, none⟩ = some (.int .i64 0) := (blk_cell BK166.out 1).trans rfl; have hcz19_2 : w18.cell? ⟨gb166, 2, none⟩ = some (.int .i64 0) := (blk_cell BK166.out 2).trans rfl; have hcz19_3 : w18.cell? ⟨gb166, 3, none⟩ = some (.int .i64 0) := (blk_cell BK166.out 3).trans rfl; have hfz19_0 := blk_frozen BK166.out 0; have hfz19_1 := blk_frozen BK166.out 1; have hfz19_2 := blk_frozen BK166.out 2; have hfz19_3 := blk_frozen BK166.out 3))
           repeat (go_quiet (first | ((with_reducible refine gate_dst (N := 4) rfl ?_); refine box_event ?hg (N := 4) ?hd (cs := #[.int .i64 0, .int .i64 0, .int .i64 0, .int .i64 0]) (t := 38) ?hr ?_; (case hd => rfl); (case hg => rfl); (case hr => first | (go_simp; done) | (go_simp; rfl)); intro gb166 hg w18 hbox hb; have n0_ := Aside0.mk (below_step (by repeat (first | (with_reducible first | exact HB.out | apply below_alloc | apply pw_below_drewN | apply below_drew1) | exact HB.out)) hb); have n1_ := Aside0.mk (hbox); have n2_ := Aside0.mk ((by rw [hg]; exact (below_size (by repeat (first | (with_reducible first | exact HB.out | apply below_alloc | apply pw_below_drewN | apply below_drew1) | exact HB.out))) : w.heap.size ≤ gb166)); have n3_ := Aside0.mk ((by rw [hg]; exact (below_size (by repeat (first | (with_reducible first | exact HB.out | apply below_alloc | apply pw_below_drewN | apply below_drew1) | exact HB.out))) : w.heap.size ≤ gb166)); clear HB; have HB := n0_; have BK166 := n1_; have GW166 := n2_; have GE166 := n3_; clear n0_ n1_ n2_ n3_; clear hb hbox hg; have hcz19_0 : w18.cell? ⟨gb166, 0, none⟩ = some (.int .i64 0) := (blk_cell BK166.out 0).trans rfl; have hcz19_1 : w18.cell? ⟨gb166, 1, none⟩ = some (.int .i64 0) := (blk_cell BK166.out 1).trans rfl; have hcz19_2 : w18.cell? ⟨gb166, 2, none⟩ = some (.int .i64 0) := (blk_cell BK166.out 2).trans rfl; have hcz19_3 : w18.cell? ⟨gb166, 3, none⟩ = some (.int .i64 0) := (blk_cell BK166.out 3).trans rfl; have hfz19_0 := blk_frozen BK166.out 0; have hfz19_1 := blk_frozen BK166.out 1; have hfz19_2 := blk_frozen BK166.out 2; have hfz19_3 := blk_frozen BK166.out 3)); try go_wp2_with (first | ((with_reducible refine gate_dst (N := 4) rfl ?_); refine box_event ?hg (N := 4) ?hd (cs := #[.int .i64 0, .int .i64 0, .int .i64 0, .int .i64 0]) (t := 38) ?hr ?_; (case hd => rfl); (case hg => rfl); (case hr => first | (go_simp; done) | (go_simp; rfl)); intro gb166 hg w18 hbox hb; have n0_ := Aside0.mk (below_step (by repeat (first | (with_reducible first | exact HB.out | apply below_alloc | apply pw_below_drewN | apply below_drew1) | exact HB.out)) hb); have n1_ := Aside0.mk (hbox); have n2_ := Aside0.mk ((by rw [hg]; exact (below_size (by repeat (first | (with_reducible first | exact HB.out | apply below_alloc | apply pw_below_drewN | apply below_drew1) | exact HB.out))) : w.heap.size ≤ gb166)); have n3_ := Aside0.mk ((by rw [hg]; exact (below_size (by repeat (first | (with_reducible first | exact HB.out | apply below_alloc | apply pw_below_drewN | apply below_drew1) | exact HB.out))) : w.heap.size ≤ gb166)); clear HB; have HB := n0_; have BK166 := n1_; have GW166 := n2_; have GE166 := n3_; clear n0_ n1_ n2_ n3_; clear hb hbox hg; have hcz19_0 : w18.cell? ⟨gb166, 0, none⟩ = some (.int .i64 0) := (blk_cell BK166.out 0).trans rfl; have hcz19_1 : w18.cell? ⟨gb166, 1, none⟩ = some (.int .i64 0) := (blk_cell BK166.out 1).trans rfl; have hcz19_2 : w18.cell? ⟨gb166, 2, none⟩ = some (.int .i64 0) := (blk_cell BK166.out 2).trans rfl; have hcz19_3 : w18.cell? ⟨gb166, 3, none⟩ = some (.int .i64 0) := (blk_cell BK166.out 3).trans rfl; have hfz19_0 := blk_frozen BK166.out 0; have hfz19_1 := blk_frozen BK166.out 1; have hfz19_2 := blk_frozen BK166.out 2; have hfz19_3 := blk_frozen BK166.out 3)))
           go_ret
           exact ⟨by first | rfl | (simp [errW_none, errW_some] <;> rfl) | (simp [*, errW_none, errW_some] <;> rfl), by repeat (first | (with_reducible first | exact HB.out | apply below_alloc | apply pw_below_drewN | apply below_drew1 | refine below_set ?_ GE166.out) | exact HB.out)⟩
          ·rw [if_neg c17] at H
           have c17b0 : decide (((rd_T38 l0 x7_1).f3) < 0) = false := decide_eq_false c17
           clear c17
           by_cases c20 : x7_1 > 0
           ·rw [if_pos c20] at H
            have c20b0 : decide (0 < x7_1) = true := decide_eq_true c20
            clear c20
            obtain ⟨ji21, hji21⟩ : ∃ j_ : Int, (wrap64 (x7_1 - 1)) = j_ := ⟨_, rfl⟩
            replace H : (if 0 ≤ (ji21) then (if (ji21) < (l0.length : Int) then (if ((rd_T38 l0 x7_1).f1) < ((rd_T38 l0 (ji21)).f1) then (some false) else (local_Is.l0 k1 l0 l0 (l0.length : Int) (wrap64 (x7_1 + 1)))) else (none)) else (none)) = some r := by first | (rw [hji21] at H; exact H) | (simp only [hji21] at H ⊢; exact H)
            have hji21w : (IntKind.i64.wrap (x7_1 - 1)) = ji21 := (i64_w _).trans hji21
            by_cases c22 : 0 ≤ (ji21)
            ·rw [if_pos c22] at H
             have c22b0 : decide (0 ≤ (ji21)) = true := decide_eq_true c22
             clear c22
             by_cases c23 : (ji21) < (l0.length : Int)
             ·rw [if_pos c23] at H
              have c23b0 : decide ((ji21) < (l0.length : Int)) = true := decide_eq_true c23
              clear c23
              by_cases c24 : ((rd_T38 l0 x7_1).f1) < ((rd_T38 l0 (ji21)).f1)
              ·rw [if_pos c24] at H
               have c24b0 : decide (((rd_T38 l0 x7_1).f1) < ((rd_T38 l0 (ji21)).f1)) = true := decide_eq_true c24
               clear c24
               obtain rfl := Option.some.inj H
               have p165 : 0 ≤ (x7_1 : Int) := of_decide_eq_true (by first | (with_reducible assumption) | assumption)
               have q165 : x7_1 < (l0.length : Int) := of_decide_eq_true (by first | (with_reducible assumption) | assumption)
               obtain ⟨ad165, e165, hx165_0, hx165_1, hx165_2, hx165_3⟩ := at_T38 HR0.out x7_1 p165 q165
               cases e165
               replace hx165_0 := (HB.out.cell (World.block_lt_of_cell? w _ hx165_0)).trans hx165_0
               replace hx165_1 := (HB.out.cell (World.block_lt_of_cell? w _ hx165_1)).trans hx165_1
               replace hx165_2 := (HB.out.cell (World.block_lt_of_cell? w _ hx165_2)).trans hx165_2
               replace hx165_3 := (HB.out.cell (World.block_lt_of_cell? w _ hx165_3)).trans hx165_3
               replace p165 := eq_true p165
               replace q165 := eq_true q165
               go_wp2_with (first | ((with_reducible refine gate_dst (N := 4) rfl ?_); refine box_event ?hg (N := 4) ?hd (cs := #[.int .i64 0, .int .i64 0, .int .i64 0, .int .i64 0]) (t := 38) ?hr ?_; (case hd => rfl); (case hg => rfl); (case hr => first | (go_simp; done) | (go_simp; rfl)); intro gb166 hg w25 hbox hb; have n0_ := Aside0.mk (below_step (by repeat (first | (with_reducible first | exact HB.out | apply below_alloc | apply pw_below_drewN | apply below_drew1) | exact HB.out)) hb); have n1_ := Aside0.mk (hbox); have n2_ := Aside0.mk ((by rw [hg]; exact (below_size (by repeat (first | (with_reducible first | exact HB.out | apply below_alloc | apply pw_below_drewN | apply below_drew1) | exact HB.out))) : w.heap.size ≤ gb166)); have n3_ := Aside0.mk ((by rw [hg]; exact (below_size (by repeat (first | (with_reducible first | exact HB.out | apply below_alloc | apply pw_below_drewN | apply below_drew1) | exact HB.out))) : w.heap.size ≤ gb166)); clear HB; have HB := n0_; have BK166 := n1_; have GW166 := n2_; have GE166 := n3_; clear n0_ n1_ n2_ n3_; clear hb hbox hg; have hcz26_0 : w25.cell? ⟨gb166, 0, none⟩ = some (.int .i64 0) := (blk_cell BK166.out 0).trans rfl; have hcz26_1 : w25.cell? ⟨gb166, 1, none⟩ = some (.int .i64 0) := (blk_cell BK166.out 1).trans rfl; have hcz26_2 : w25.cell? ⟨gb166, 2, none⟩ = some (.int .i64 0) := (blk_cell BK166.out 2).trans rfl; have hcz26_3 : w25.cell? ⟨gb166, 3, none⟩ = some (.int .i64 0) := (blk_cell BK166.out 3).trans rfl; have hfz26_0 := blk_frozen BK166.out 0; have hfz26_1 := blk_frozen BK166.out 1; have hfz26_2 := blk_frozen BK166.out 2; have hfz26_3 := blk_frozen BK166.out 3; have p167 : 0 ≤ ((ji21) : Int) := of_decide_eq_true (by first | (with_reducible assumption) | assumption); have q167 : (ji21) < (l0.length : Int) := of_decide_eq_true (by first | (with_reducible assumption) | assumption); obtain ⟨ad167, e167, hx167_0, hx167_1, hx167_2, hx167_3⟩ := at_T38 HR0.out (ji21) p167 q167; obtain rfl : ad165 = ad167 := (by injection e167); have hn167_0 : ad165.block ≠ gb166 := Nat.ne_of_lt (Nat.lt_of_lt_of_le (by have := World.block_lt_of_cell? _ _ hx167_0; first | rwa [add_block] at this | exact this) GW166.out); have hn167_1 : ad165.block ≠ gb166 := Nat.ne_of_lt (Nat.lt_of_lt_of_le (by have := World.block_lt_of_cell? _ _ hx167_0; first | rwa [add_block] at this | exact this) GW166.out); have hn167_2 : ad165.block ≠ gb166 := Nat.ne_of_lt (Nat.lt_of_lt_of_le (by have := World.block_lt_of_cell? _ _ hx167_0; first | rwa [add_block] at this | exact this) GW166.out); have hn167_3 : ad165.block ≠ gb166 := Nat.ne_of_lt (Nat.lt_of_lt_of_le (by have := World.block_lt_of_cell? _ _ hx167_0; first | rwa [add_block] at this | exact this) GW166.out); replace hx167_0 := (HB.out.cell (World.block_lt_of_cell? w _ hx167_0)).trans hx167_0; replace hx167_1 := (HB.out.cell (World.block_lt_of_cell? w _ hx167_1)).trans hx167_1; replace hx167_2 := (HB.out.cell (World.block_lt_of_cell? w _ hx167_2)).trans hx167_2; replace hx167_3 := (HB.out.cell (World.block_lt_of_cell? w _ hx167_3)).trans hx167_3; replace hx167_0 := (cell_far (p := ⟨gb166, 0, none⟩) (by first | (rw [add_block]; exact hn167_0) | (show (Addr.add _ _).block ≠ _; rw [add_block]; exact hn167_0) | exact hn167_0) (.int .i64 ((rd_T38 l0 x7_1).f0))).trans hx167_0; replace hx167_1 := (cell_far (p := ⟨gb166, 0, none⟩) (by first | (rw [add_block]; exact hn167_0) | (show (Addr.add _ _).block ≠ _; rw [add_block]; exact hn167_0) | exact hn167_0) (.int .i64 ((rd_T38 l0 x7_1).f0))).trans hx167_1; replace hx167_2 := (cell_far (p := ⟨gb166, 0, none⟩) (by first | (rw [add_block]; exact hn167_0) | (show (Addr.add _ _).block ≠ _; rw [add_block]; exact hn167_0) | exact hn167_0) (.int .i64 ((rd_T38 l0 x7_1).f0))).trans hx167_2; replace hx167_3 := (cell_far (p := ⟨gb166, 0, none⟩) (by first | (rw [add_block]; exact hn167_0) | (show (Addr.add _ _).block ≠ _; rw [add_block]; exact hn167_0) | exact hn167_0) (.int .i64 ((rd_T38 l0 x7_1).f0))).trans hx167_3; replace hx167_0 := (cell_far (p := ⟨gb166, 1, none⟩) (by first | (rw [add_block]; exact hn167_1) | (show (Addr.add _ _).block ≠ _; rw [add_block]; exact hn167_1) | exact hn167_1) (.int .i64 ((rd_T38 l0 x7_1).f1))).trans hx167_0; replace hx167_1 := (cell_far (p := ⟨gb166, 1, none⟩) (by first | (rw [add_block]; exact hn167_1) | (show (Addr.add _ _).block ≠ _; rw [add_block]; exact hn167_1) | exact hn167_1) (.int .i64 ((rd_T38 l0 x7_1).f1))).trans hx167_1; replace hx167_2 := (cell_far (p := ⟨gb166, 1, none⟩) (by first | (rw [add_block]; exact hn167_1) | (show (Addr.add _ _).block ≠ _; rw [add_block]; exact hn167_1) | exact hn167_1) (.int .i64 ((rd_T38 l0 x7_1).f1))).trans hx167_2; replace hx167_3 := (cell_far (p := ⟨gb166, 1, none⟩) (by first | (rw [add_block]; exact hn167_1) | (show (Addr.add _ _).block ≠ _; rw [add_block]; exact hn167_1) | exact hn167_1) (.int .i64 ((rd_T38 l0 x7_1).f1))).trans hx167_3; replace hx167_0 := (cell_far (p := ⟨gb166, 2, none⟩) (by first | (rw [add_block]; exact hn167_2) | (show (Addr.add _ _).block ≠ _; rw [add_block]; exact hn167_2) | exact hn167_2) (.int .i64 ((rd_T38 l0 x7_1).f2))).trans hx167_0; replace hx167_1 := (cell_far (p := ⟨gb166, 2, none⟩) (by first | (rw [add_block]; exact hn167_2) | (show (Addr.add _ _).block ≠ _; rw [add_block]; exact hn167_2) | exact hn167_2) (.int .i64 ((rd_T38 l0 x7_1).f2))).trans hx167_1; replace hx167_2 := (cell_far (p := ⟨gb166, 2, none⟩) (by first | (rw [add_block]; exact hn167_2) | (show (Addr.add _ _).block ≠ _; rw [add_block]; exact hn167_2) | exact hn167_2) (.int .i64 ((rd_T38 l0 x7_1).f2))).trans hx167_2; replace hx167_3 := (cell_far (p := ⟨gb166, 2, none⟩) (by first | (rw [add_block]; exact hn167_2) | (show (Addr.add _ _).block ≠ _; rw [add_block]; exact hn167_2) | exact hn167_2) (.int .i64 ((rd_T38 l0 x7_1).f2))).trans hx167_3; replace hx167_0 := (cell_far (p := ⟨gb166, 3, none⟩) (by first | (rw [add_block]; exact hn167_3) | (show (Addr.add _ _).block ≠ _; rw [add_block]; exact hn167_3) | exact hn167_3) (.int .i64 ((rd_T38 l0 x7_1).f3))).trans hx167_0; replace hx167_1 := (cell_far (p := ⟨gb166, 3, none⟩) (by first | (rw [add_block]; exact hn167_3) | (show (Addr.add _ _).block ≠ _; rw [add_block]; exact hn167_3) | exact hn167_3) (.int .i64 ((rd_T38 l0 x7_1).f3))).trans hx167_1; replace hx167_2 := (cell_far (p := ⟨gb166, 3, none⟩) (by first | (rw [add_block]; exact hn167_3) | (show (Addr.add _ _).block ≠ _; rw [add_block]; exact hn167_3) | exact hn167_3) (.int .i64 ((rd_T38 l0 x7_1).f3))).trans hx167_2; replace hx167_3 := (cell_far (p := ⟨gb166, 3, none⟩) (by first | (rw [add_block]; exact hn167_3) | (show (Addr.add _ _).block ≠ _; rw [add_block]; exact hn167_3) | exact hn167_3) (.int .i64 ((rd_T38 l0 x7_1).f3))).trans hx167_3; (try have hy167_0 := fun (n_ : Nat) => (show ((((((w25.drewN n_).setCell ⟨gb166, 0, none⟩ (.int .i64 ((rd_T38 l0 x7_1).f0))).setCell ⟨gb166, 1, none⟩ (.int .i64 ((rd_T38 l0 x7_1).f1))).setCell ⟨gb166, 2, none⟩ (.int .i64 ((rd_T38 l0 x7_1).f2))).setCell ⟨gb166, 3, none⟩ (.int .i64 ((rd_T38 l0 x7_1).f3)))).cell? _ = some _ from hx167_0)); (try have hy167_1 := fun (n_ : Nat) => (show ((((((w25.drewN n_).setCell ⟨gb166, 0, none⟩ (.int .i64 ((rd_T38 l0 x7_1).f0))).setCell ⟨gb166, 1, none⟩ (.int .i64 ((rd_T38 l0 x7_1).f1))).setCell ⟨gb166, 2, none⟩ (.int .i64 ((rd_T38 l0 x7_1).f2))).setCell ⟨gb166, 3, none⟩ (.int .i64 ((rd_T38 l0 x7_1).f3)))).cell? _ = some _ from hx167_1)); (try have hy167_2 := fun (n_ : Nat) => (show ((((((w25.drewN n_).setCell ⟨gb166, 0, none⟩ (.int .i64 ((rd_T38 l0 x7_1).f0))).setCell ⟨gb166, 1, none⟩ (.int .i64 ((rd_T38 l0 x7_1).f1))).setCell ⟨gb166, 2, none⟩ (.int .i64 ((rd_T38 l0 x7_1).f2))).setCell ⟨gb166, 3, none⟩ (.int .i64 ((rd_T38 l0 x7_1).f3)))).cell? _ = some _ from hx167_2)); (try have hy167_3 := fun (n_ : Nat) => (show ((((((w25.drewN n_).setCell ⟨gb166, 0, none⟩ (.int .i64 ((rd_T38 l0 x7_1).f0))).setCell ⟨gb166, 1, none⟩ (.int .i64 ((rd_T38 l0 x7_1).f1))).setCell ⟨gb166, 2, none⟩ (.int .i64 ((rd_T38 l0 x7_1).f2))).setCell ⟨gb166, 3, none⟩ (.int .i64 ((rd_T38 l0 x7_1).f3)))).cell? _ = some _ from hx167_3)); clear hn167_0; clear hn167_1; clear hn167_2; clear hn167_3; replace p167 := eq_true p167; replace q167 := eq_true q167))
               repeat (go_quiet (first | ((with_reducible refine gate_dst (N := 4) rfl ?_); refine box_event ?hg (N := 4) ?hd (cs := #[.int .i64 0, .int .i64 0, .int .i64 0, .int .i64 0]) (t := 38) ?hr ?_; (case hd => rfl); (case hg => rfl); (case hr => first | (go_simp; done) | (go_simp; rfl)); intro gb166 hg w25 hbox hb; have n0_ := Aside0.mk (below_step (by repeat (first | (with_reducible first | exact HB.out | apply below_alloc | apply pw_below_drewN | apply below_drew1) | exact HB.out)) hb); have n1_ := Aside0.mk (hbox); have n2_ := Aside0.mk ((by rw [hg]; exact (below_size (by repeat (first | (with_reducible first | exact HB.out | apply below_alloc | apply pw_below_drewN | apply below_drew1) | exact HB.out))) : w.heap.size ≤ gb166)); have n3_ := Aside0.mk ((by rw [hg]; exact (below_size (by repeat (first | (with_reducible first | exact HB.out | apply below_alloc | apply pw_below_drewN | apply below_drew1) | exact HB.out))) : w.heap.size ≤ gb166)); clear HB; have HB := n0_; have BK166 := n1_; have GW166 := n2_; have GE166 := n3_; clear n0_ n1_ n2_ n3_; clear hb hbox hg; have hcz26_0 : w25.cell? ⟨gb166, 0, none⟩ = some (.int .i64 0) := (blk_cell BK166.out 0).trans rfl; have hcz26_1 : w25.cell? ⟨gb166, 1, none⟩ = some (.int .i64 0) := (blk_cell BK166.out 1).trans rfl; have hcz26_2 : w25.cell? ⟨gb166, 2, none⟩ = some (.int .i64 0) := (blk_cell BK166.out 2).trans rfl; have hcz26_3 : w25.cell? ⟨gb166, 3, none⟩ = some (.int .i64 0) := (blk_cell BK166.out 3).trans rfl; have hfz26_0 := blk_frozen BK166.out 0; have hfz26_1 := blk_frozen BK166.out 1; have hfz26_2 := blk_frozen BK166.out 2; have hfz26_3 := blk_frozen BK166.out 3; have p167 : 0 ≤ ((ji21) : Int) := of_decide_eq_true (by first | (with_reducible assumption) | assumption); have q167 : (ji21) < (l0.length : Int) := of_decide_eq_true (by first | (with_reducible assumption) | assumption); obtain ⟨ad167, e167, hx167_0, hx167_1, hx167_2, hx167_3⟩ := at_T38 HR0.out (ji21) p167 q167; obtain rfl : ad165 = ad167 := (by injection e167); have hn167_0 : ad165.block ≠ gb166 := Nat.ne_of_lt (Nat.lt_of_lt_of_le (by have := World.block_lt_of_cell? _ _ hx167_0; first | rwa [add_block] at this | exact this) GW166.out); have hn167_1 : ad165.block ≠ gb166 := Nat.ne_of_lt (Nat.lt_of_lt_of_le (by have := World.block_lt_of_cell? _ _ hx167_0; first | rwa [add_block] at this | exact this) GW166.out); have hn167_2 : ad165.block ≠ gb166 := Nat.ne_of_lt (Nat.lt_of_lt_of_le (by have := World.block_lt_of_cell? _ _ hx167_0; first | rwa [add_block] at this | exact this) GW166.out); have hn167_3 : ad165.block ≠ gb166 := Nat.ne_of_lt (Nat.lt_of_lt_of_le (by have := World.block_lt_of_cell? _ _ hx167_0; first | rwa [add_block] at this | exact this) GW166.out); replace hx167_0 := (HB.out.cell (World.block_lt_of_cell? w _ hx167_0)).trans hx167_0; replace hx167_1 := (HB.out.cell (World.block_lt_of_cell? w _ hx167_1)).trans hx167_1; replace hx167_2 := (HB.out.cell (World.block_lt_of_cell? w _ hx167_2)).trans hx167_2; replace hx167_3 := (HB.out.cell (World.block_lt_of_cell? w _ hx167_3)).trans hx167_3; replace hx167_0 := (cell_far (p := ⟨gb166, 0, none⟩) (by first | (rw [add_block]; exact hn167_0) | (show (Addr.add _ _).block ≠ _; rw [add_block]; exact hn167_0) | exact hn167_0) (.int .i64 ((rd_T38 l0 x7_1).f0))).trans hx167_0; replace hx167_1 := (cell_far (p := ⟨gb166, 0, none⟩) (by first | (rw [add_block]; exact hn167_0) | (show (Addr.add _ _).block ≠ _; rw [add_block]; exact hn167_0) | exact hn167_0) (.int .i64 ((rd_T38 l0 x7_1).f0))).trans hx167_1; replace hx167_2 := (cell_far (p := ⟨gb166, 0, none⟩) (by first | (rw [add_block]; exact hn167_0) | (show (Addr.add _ _).block ≠ _; rw [add_block]; exact hn167_0) | exact hn167_0) (.int .i64 ((rd_T38 l0 x7_1).f0))).trans hx167_2; replace hx167_3 := (cell_far (p := ⟨gb166, 0, none⟩) (by first | (rw [add_block]; exact hn167_0) | (show (Addr.add _ _).block ≠ _; rw [add_block]; exact hn167_0) | exact hn167_0) (.int .i64 ((rd_T38 l0 x7_1).f0))).trans hx167_3; replace hx167_0 := (cell_far (p := ⟨gb166, 1, none⟩) (by first | (rw [add_block]; exact hn167_1) | (show (Addr.add _ _).block ≠ _; rw [add_block]; exact hn167_1) | exact hn167_1) (.int .i64 ((rd_T38 l0 x7_1).f1))).trans hx167_0; replace hx167_1 := (cell_far (p := ⟨gb166, 1, none⟩) (by first | (rw [add_block]; exact hn167_1) | (show (Addr.add _ _).block ≠ _; rw [add_block]; exact hn167_1) | exact hn167_1) (.int .i64 ((rd_T38 l0 x7_1).f1))).trans hx167_1; replace hx167_2 := (cell_far (p := ⟨gb166, 1, none⟩) (by first | (rw [add_block]; exact hn167_1) | (show (Addr.add _ _).block ≠ _; rw [add_block]; exact hn167_1) | exact hn167_1) (.int .i64 ((rd_T38 l0 x7_1).f1))).trans hx167_2; replace hx167_3 := (cell_far (p := ⟨gb166, 1, none⟩) (by first | (rw [add_block]; exact hn167_1) | (show (Addr.add _ _).block ≠ _; rw [add_block]; exact hn167_1) | exact hn167_1) (.int .i64 ((rd_T38 l0 x7_1).f1))).trans hx167_3; replace hx167_0 := (cell_far (p := ⟨gb166, 2, none⟩) (by first | (rw [add_block]; exact hn167_2) | (show (Addr.add _ _).block ≠ _; rw [add_block]; exact hn167_2) | exact hn167_2) (.int .i64 ((rd_T38 l0 x7_1).f2))).trans hx167_0; replace hx167_1 := (cell_far (p := ⟨gb166, 2, none⟩) (by first | (rw [add_block]; exact hn167_2) | (show (Addr.add _ _).block ≠ _; rw [add_block]; exact hn167_2) | exact hn167_2) (.int .i64 ((rd_T38 l0 x7_1).f2))).trans hx167_1; replace hx167_2 := (cell_far (p := ⟨gb166, 2, none⟩) (by first | (rw [add_block]; exact hn167_2) | (show (Addr.add _ _).block ≠ _; rw [add_block]; exact hn167_2) | exact hn167_2) (.int .i64 ((rd_T38 l0 x7_1).f2))).trans hx167_2; replace hx167_3 := (cell_far (p := ⟨gb166, 2, none⟩) (by first | (rw [add_block]; exact hn167_2) | (show (Addr.add _ _).block ≠ _; rw [add_block]; exact hn167_2) | exact hn167_2) (.int .i64 ((rd_T38 l0 x7_1).f2))).trans hx167_3; replace hx167_0 := (cell_far (p := ⟨gb166, 3, none⟩) (by first | (rw [add_block]; exact hn167_3) | (show (Addr.add _ _).block ≠ _; rw [add_block]; exact hn167_3) | exact hn167_3) (.int .i64 ((rd_T38 l0 x7_1).f3))).trans hx167_0; replace hx167_1 := (cell_far (p := ⟨gb166, 3, none⟩) (by first | (rw [add_block]; exact hn167_3) | (show (Addr.add _ _).block ≠ _; rw [add_block]; exact hn167_3) | exact hn167_3) (.int .i64 ((rd_T38 l0 x7_1).f3))).trans hx167_1; replace hx167_2 := (cell_far (p := ⟨gb166, 3, none⟩) (by first | (rw [add_block]; exact hn167_3) | (show (Addr.add _ _).block ≠ _; rw [add_block]; exact hn167_3) | exact hn167_3) (.int .i64 ((rd_T38 l0 x7_1).f3))).trans hx167_2; replace hx167_3 := (cell_far (p := ⟨gb166, 3, none⟩) (by first | (rw [add_block]; exact hn167_3) | (show (Addr.add _ _).block ≠ _; rw [add_block]; exact hn167_3) | exact hn167_3) (.int .i64 ((rd_T38 l0 x7_1).f3))).trans hx167_3; (try have hy167_0 := fun (n_ : Nat) => (show ((((((w25.drewN n_).setCell ⟨gb166, 0, none⟩ (.int .i64 ((rd_T38 l0 x7_1).f0))).setCell ⟨gb166, 1, none⟩ (.int .i64 ((rd_T38 l0 x7_1).f1))).setCell ⟨gb166, 2, none⟩ (.int .i64 ((rd_T38 l0 x7_1).f2))).setCell ⟨gb166, 3, none⟩ (.int .i64 ((rd_T38 l0 x7_1).f3)))).cell? _ = some _ from hx167_0)); (try have hy167_1 := fun (n_ : Nat) => (show ((((((w25.drewN n_).setCell ⟨gb166, 0, none⟩ (.int .i64 ((rd_T38 l0 x7_1).f0))).setCell ⟨gb166, 1, none⟩ (.int .i64 ((rd_T38 l0 x7_1).f1))).setCell ⟨gb166, 2, none⟩ (.int .i64 ((rd_T38 l0 x7_1).f2))).setCell ⟨gb166, 3, none⟩ (.int .i64 ((rd_T38 l0 x7_1).f3)))).cell? _ = some _ from hx167_1)); (try have hy167_2 := fun (n_ : Nat) => (show ((((((w25.drewN n_).setCell ⟨gb166, 0, none⟩ (.int .i64 ((rd_T38 l0 x7_1).f0))).setCell ⟨gb166, 1, none⟩ (.int .i64 ((rd_T38 l0 x7_1).f1))).setCell ⟨gb166, 2, none⟩ (.int .i64 ((rd_T38 l0 x7_1).f2))).setCell ⟨gb166, 3, none⟩ (.int .i64 ((rd_T38 l0 x7_1).f3)))).cell? _ = some _ from hx167_2)); (try have hy167_3 := fun (n_ : Nat) => (show ((((((w25.drewN n_).setCell ⟨gb166, 0, none⟩ (.int .i64 ((rd_T38 l0 x7_1).f0))).setCell ⟨gb166, 1, none⟩ (.int .i64 ((rd_T38 l0 x7_1).f1))).setCell ⟨gb166, 2, none⟩ (.int .i64 ((rd_T38 l0 x7_1).f2))).setCell ⟨gb166, 3, none⟩ (.int .i64 ((rd_T38 l0 x7_1).f3)))).cell? _ = some _ from hx167_3)); clear hn167_0; clear hn167_1; clear hn167_2; clear hn167_3; replace p167 := eq_true p167; replace q167 := eq_true q167)); try go_wp2_with (first | ((with_reducible refine gate_dst (N := 4) rfl ?_); refine box_event ?hg (N := 4) ?hd (cs := #[.int .i64 0, .int .i64 0, .int .i64 0, .int .i64 0]) (t := 38) ?hr ?_; (case hd => rfl); (case hg => rfl); (case hr => first | (go_simp; done) | (go_simp; rfl)); intro gb166 hg w25 hbox hb; have n0_ := Aside0.mk (below_step (by repeat (first | (with_reducible first | exact HB.out | apply below_alloc | apply pw_below_drewN | apply below_drew1) | exact HB.out)) hb); have n1_ := Aside0.mk (hbox); have n2_ := Aside0.mk ((by rw [hg]; exact (below_size (by repeat (first | (with_reducible first | exact HB.out | apply below_alloc | apply pw_below_drewN | apply below_drew1) | exact HB.out))) : w.heap.size ≤ gb166)); have n3_ := Aside0.mk ((by rw [hg]; exact (below_size (by repeat (first | (with_reducible first | exact HB.out | apply below_alloc | apply pw_below_drewN | apply below_drew1) | exact HB.out))) : w.heap.size ≤ gb166)); clear HB; have HB := n0_; have BK166 := n1_; have GW166 := n2_; have GE166 := n3_; clear n0_ n1_ n2_ n3_; clear hb hbox hg; have hcz26_0 : w25.cell? ⟨gb166, 0, none⟩ = some (.int .i64 0) := (blk_cell BK166.out 0).trans rfl; have hcz26_1 : w25.cell? ⟨gb166, 1, none⟩ = some (.int .i64 0) := (blk_cell BK166.out 1).trans rfl; have hcz26_2 : w25.cell? ⟨gb166, 2, none⟩ = some (.int .i64 0) := (blk_cell BK166.out 2).trans rfl; have hcz26_3 : w25.cell? ⟨gb166, 3, none⟩ = some (.int .i64 0) := (blk_cell BK166.out 3).trans rfl; have hfz26_0 := blk_frozen BK166.out 0; have hfz26_1 := blk_frozen BK166.out 1; have hfz26_2 := blk_frozen BK166.out 2; have hfz26_3 := blk_frozen BK166.out 3; have p167 : 0 ≤ ((ji21) : Int) := of_decide_eq_true (by first | (with_reducible assumption) | assumption); have q167 : (ji21) < (l0.length : Int) := of_decide_eq_true (by first | (with_reducible assumption) | assumption); obtain ⟨ad167, e167, hx167_0, hx167_1, hx167_2, hx167_3⟩ := at_T38 HR0.out (ji21) p167 q167; obtain rfl : ad165 = ad167 := (by injection e167); have hn167_0 : ad165.block ≠ gb166 := Nat.ne_of_lt (Nat.lt_of_lt_of_le (by have := World.block_lt_of_cell? _ _ hx167_0; first | rwa [add_block] at this | exact this) GW166.out); have hn167_1 : ad165.block ≠ gb166 := Nat.ne_of_lt (Nat.lt_of_lt_of_le (by have := World.block_lt_of_cell? _ _ hx167_0; first | rwa [add_block] at this | exact this) GW166.out); have hn167_2 : ad165.block ≠ gb166 := Nat.ne_of_lt (Nat.lt_of_lt_of_le (by have := World.block_lt_of_cell? _ _ hx167_0; first | rwa [add_block] at this | exact this) GW166.out); have hn167_3 : ad165.block ≠ gb166 := Nat.ne_of_lt (Nat.lt_of_lt_of_le (by have := World.block_lt_of_cell? _ _ hx167_0; first | rwa [add_block] at this | exact this) GW166.out); replace hx167_0 := (HB.out.cell (World.block_lt_of_cell? w _ hx167_0)).trans hx167_0; replace hx167_1 := (HB.out.cell (World.block_lt_of_cell? w _ hx167_1)).trans hx167_1; replace hx167_2 := (HB.out.cell (World.block_lt_of_cell? w _ hx167_2)).trans hx167_2; replace hx167_3 := (HB.out.cell (World.block_lt_of_cell? w _ hx167_3)).trans hx167_3; replace hx167_0 := (cell_far (p := ⟨gb166, 0, none⟩) (by first | (rw [add_block]; exact hn167_0) | (show (Addr.add _ _).block ≠ _; rw [add_block]; exact hn167_0) | exact hn167_0) (.int .i64 ((rd_T38 l0 x7_1).f0))).trans hx167_0; replace hx167_1 := (cell_far (p := ⟨gb166, 0, none⟩) (by first | (rw [add_block]; exact hn167_0) | (show (Addr.add _ _).block ≠ _; rw [add_block]; exact hn167_0) | exact hn167_0) (.int .i64 ((rd_T38 l0 x7_1).f0))).trans hx167_1; replace hx167_2 := (cell_far (p := ⟨gb166, 0, none⟩) (by first | (rw [add_block]; exact hn167_0) | (show (Addr.add _ _).block ≠ _; rw [add_block]; exact hn167_0) | exact hn167_0) (.int .i64 ((rd_T38 l0 x7_1).f0))).trans hx167_2; replace hx167_3 := (cell_far (p := ⟨gb166, 0, none⟩) (by first | (rw [add_block]; exact hn167_0) | (show (Addr.add _ _).block ≠ _; rw [add_block]; exact hn167_0) | exact hn167_0) (.int .i64 ((rd_T38 l0 x7_1).f0))).trans hx167_3; replace hx167_0 := (cell_far (p := ⟨gb166, 1, none⟩) (by first | (rw [add_block]; exact hn167_1) | (show (Addr.add _ _).block ≠ _; rw [add_block]; exact hn167_1) | exact hn167_1) (.int .i64 ((rd_T38 l0 x7_1).f1))).trans hx167_0; replace hx167_1 := (cell_far (p := ⟨gb166, 1, none⟩) (by first | (rw [add_block]; exact hn167_1) | (show (Addr.add _ _).block ≠ _; rw [add_block]; exact hn167_1) | exact hn167_1) (.int .i64 ((rd_T38 l0 x7_1).f1))).trans hx167_1; replace hx167_2 := (cell_far (p := ⟨gb166, 1, none⟩) (by first | (rw [add_block]; exact hn167_1) | (show (Addr.add _ _).block ≠ _; rw [add_block]; exact hn167_1) | exact hn167_1) (.int .i64 ((rd_T38 l0 x7_1).f1))).trans hx167_2; replace hx167_3 := (cell_far (p := ⟨gb166, 1, none⟩) (by first | (rw [add_block]; exact hn167_1) | (show (Addr.add _ _).block ≠ _; rw [add_block]; exact hn167_1) | exact hn167_1) (.int .i64 ((rd_T38 l0 x7_1).f1))).trans hx167_3; replace hx167_0 := (cell_far (p := ⟨gb166, 2, none⟩) (by first | (rw [add_block]; exact hn167_2) | (show (Addr.add _ _).block ≠ _; rw [add_block]; exact hn167_2) | exact hn167_2) (.int .i64 ((rd_T38 l0 x7_1).f2))).trans hx167_0; replace hx167_1 := (cell_far (p := ⟨gb166, 2, none⟩) (by first | (rw [add_block]; exact hn167_2) | (show (Addr.add _ _).block ≠ _; rw [add_block]; exact hn167_2) | exact hn167_2) (.int .i64 ((rd_T38 l0 x7_1).f2))).trans hx167_1; replace hx167_2 := (cell_far (p := ⟨gb166, 2, none⟩) (by first | (rw [add_block]; exact hn167_2) | (show (Addr.add _ _).block ≠ _; rw [add_block]; exact hn167_2) | exact hn167_2) (.int .i64 ((rd_T38 l0 x7_1).f2))).trans hx167_2; replace hx167_3 := (cell_far (p := ⟨gb166, 2, none⟩) (by first | (rw [add_block]; exact hn167_2) | (show (Addr.add _ _).block ≠ _; rw [add_block]; exact hn167_2) | exact hn167_2) (.int .i64 ((rd_T38 l0 x7_1).f2))).trans hx167_3; replace hx167_0 := (cell_far (p := ⟨gb166, 3, none⟩) (by first | (rw [add_block]; exact hn167_3) | (show (Addr.add _ _).block ≠ _; rw [add_block]; exact hn167_3) | exact hn167_3) (.int .i64 ((rd_T38 l0 x7_1).f3))).trans hx167_0; replace hx167_1 := (cell_far (p := ⟨gb166, 3, none⟩) (by first | (rw [add_block]; exact hn167_3) | (show (Addr.add _ _).block ≠ _; rw [add_block]; exact hn167_3) | exact hn167_3) (.int .i64 ((rd_T38 l0 x7_1).f3))).trans hx167_1; replace hx167_2 := (cell_far (p := ⟨gb166, 3, none⟩) (by first | (rw [add_block]; exact hn167_3) | (show (Addr.add _ _).block ≠ _; rw [add_block]; exact hn167_3) | exact hn167_3) (.int .i64 ((rd_T38 l0 x7_1).f3))).trans hx167_2; replace hx167_3 := (cell_far (p := ⟨gb166, 3, none⟩) (by first | (rw [add_block]; exact hn167_3) | (show (Addr.add _ _).block ≠ _; rw [add_block]; exact hn167_3) | exact hn167_3) (.int .i64 ((rd_T38 l0 x7_1).f3))).trans hx167_3; (try have hy167_0 := fun (n_ : Nat) => (show ((((((w25.drewN n_).setCell ⟨gb166, 0, none⟩ (.int .i64 ((rd_T38 l0 x7_1).f0))).setCell ⟨gb166, 1, none⟩ (.int .i64 ((rd_T38 l0 x7_1).f1))).setCell ⟨gb166, 2, none⟩ (.int .i64 ((rd_T38 l0 x7_1).f2))).setCell ⟨gb166, 3, none⟩ (.int .i64 ((rd_T38 l0 x7_1).f3)))).cell? _ = some _ from hx167_0)); (try have hy167_1 := fun (n_ : Nat) => (show ((((((w25.drewN n_).setCell ⟨gb166, 0, none⟩ (.int .i64 ((rd_T38 l0 x7_1).f0))).setCell ⟨gb166, 1, none⟩ (.int .i64 ((rd_T38 l0 x7_1).f1))).setCell ⟨gb166, 2, none⟩ (.int .i64 ((rd_T38 l0 x7_1).f2))).setCell ⟨gb166, 3, none⟩ (.int .i64 ((rd_T38 l0 x7_1).f3)))).cell? _ = some _ from hx167_1)); (try have hy167_2 := fun (n_ : Nat) => (show ((((((w25.drewN n_).setCell ⟨gb166, 0, none⟩ (.int .i64 ((rd_T38 l0 x7_1).f0))).setCell ⟨gb166, 1, none⟩ (.int .i64 ((rd_T38 l0 x7_1).f1))).setCell ⟨gb166, 2, none⟩ (.int .i64 ((rd_T38 l0 x7_1).f2))).setCell ⟨gb166, 3, none⟩ (.int .i64 ((rd_T38 l0 x7_1).f3)))).cell? _ = some _ from hx167_2)); (try have hy167_3 := fun (n_ : Nat) => (show ((((((w25.drewN n_).setCell ⟨gb166, 0, none⟩ (.int .i64 ((rd_T38 l0 x7_1).f0))).setCell ⟨gb166, 1, none⟩ (.int .i64 ((rd_T38 l0 x7_1).f1))).setCell ⟨gb166, 2, none⟩ (.int .i64 ((rd_T38 l0 x7_1).f2))).setCell ⟨gb166, 3, none⟩ (.int .i64 ((rd_T38 l0 x7_1).f3)))).cell? _ = some _ from hx167_3)); clear hn167_0; clear hn167_1; clear hn167_2; clear hn167_3; replace p167 := eq_true p167; replace q167 := eq_true q167)))
               go_ret
               exact ⟨by first | rfl | (simp [errW_none, errW_some] <;> rfl) | (simp only [← hji21]; first | rfl | (simp [errW_none, errW_some] <;> rfl)) | (simp [*, errW_none, errW_some] <;> rfl), by repeat (first | (with_reducible first | exact HB.out | apply below_alloc | apply pw_below_drewN | apply below_drew1 | refine below_set ?_ GE166.out) | exact HB.out)⟩
              ·rw [if_neg c24] at H
               have c24b0 : decide (((rd_T38 l0 x7_1).f1) < ((rd_T38 l0 (ji21)).f1)) = false := decide_eq_false c24
               clear c24
               have H' := Aside0.mk H
               clear H
               have p165 : 0 ≤ (x7_1 : Int) := of_decide_eq_true (by first | (with_reducible assumption) | assumption)
               have q165 : x7_1 < (l0.length : Int) := of_decide_eq_true (by first | (with_reducible assumption) | assumption)
               obtain ⟨ad165, e165, hx165_0, hx165_1, hx165_2, hx165_3⟩ := at_T38 HR0.out x7_1 p165 q165
               cases e165
               replace hx165_0 := (HB.out.cell (World.block_lt_of_cell? w _ hx165_0)).trans hx165_0
               replace hx165_1 := (HB.out.cell (World.block_lt_of_cell? w _ hx165_1)).trans hx165_1
               replace hx165_2 := (HB.out.cell (World.block_lt_of_cell? w _ hx165_2)).trans hx165_2
               replace hx165_3 := (HB.out.cell (World.block_lt_of_cell? w _ hx165_3)).trans hx165_3
               replace p165 := eq_true p165
               replace q165 := eq_true q165
               go_wp2_with (first | ((with_reducible refine gate_dst (N := 4) rfl ?_); refine box_event ?hg (N := 4) ?hd (cs := #[.int .i64 0, .int .i64 0, .int .i64 0, .int .i64 0]) (t := 38) ?hr ?_; (case hd => rfl); (case hg => rfl); (case hr => first | (go_simp; done) | (go_simp; rfl)); intro gb166 hg w27 hbox hb; have n0_ := Aside0.mk (below_step (by repeat (first | (with_reducible first | exact HB.out | apply below_alloc | apply pw_below_drewN | apply below_drew1) | exact HB.out)) hb); have n1_ := Aside0.mk (hbox); have n2_ := Aside0.mk ((by rw [hg]; exact (below_size (by repeat (first | (with_reducible first | exact HB.out | apply below_alloc | apply pw_below_drewN | apply below_drew1) | exact HB.out))) : w.heap.size ≤ gb166)); have n3_ := Aside0.mk ((by rw [hg]; exact (below_size (by repeat (first | (with_reducible first | exact HB.out | apply below_alloc | apply pw_below_drewN | apply below_drew1) | exact HB.out))) : w.heap.size ≤ gb166)); clear HB; have HB := n0_; have BK166 := n1_; have GW166 := n2_; have GE166 := n3_; clear n0_ n1_ n2_ n3_; clear hb hbox hg; have hcz28_0 : w27.cell? ⟨gb166, 0, none⟩ = some (.int .i64 0) := (blk_cell BK166.out 0).trans rfl; have hcz28_1 : w27.cell? ⟨gb166, 1, none⟩ = some (.int .i64 0) := (blk_cell BK166.out 1).trans rfl; have hcz28_2 : w27.cell? ⟨gb166, 2, none⟩ = some (.int .i64 0) := (blk_cell BK166.out 2).trans rfl; have hcz28_3 : w27.cell? ⟨gb166, 3, none⟩ = some (.int .i64 0) := (blk_cell BK166.out 3).trans rfl; have hfz28_0 := blk_frozen BK166.out 0; have hfz28_1 := blk_frozen BK166.out 1; have hfz28_2 := blk_frozen BK166.out 2; have hfz28_3 := blk_frozen BK166.out 3; have p167 : 0 ≤ ((ji21) : Int) := of_decide_eq_true (by first | (with_reducible assumption) | assumption); have q167 : (ji21) < (l0.length : Int) := of_decide_eq_true (by first | (with_reducible assumption) | assumption); obtain ⟨ad167, e167, hx167_0, hx167_1, hx167_2, hx167_3⟩ := at_T38 HR0.out (ji21) p167 q167; obtain rfl : ad165 = ad167 := (by injection e167); have hn167_0 : ad165.block ≠ gb166 := Nat.ne_of_lt (Nat.lt_of_lt_of_le (by have := World.block_lt_of_cell? _ _ hx167_0; first | rwa [add_block] at this | exact this) GW166.out); have hn167_1 : ad165.block ≠ gb166 := Nat.ne_of_lt (Nat.lt_of_lt_of_le (by have := World.block_lt_of_cell? _ _ hx167_0; first | rwa [add_block] at this | exact this) GW166.out); have hn167_2 : ad165.block ≠ gb166 := Nat.ne_of_lt (Nat.lt_of_lt_of_le (by have := World.block_lt_of_cell? _ _ hx167_0; first | rwa [add_block] at this | exact this) GW166.out); have hn167_3 : ad165.block ≠ gb166 := Nat.ne_of_lt (Nat.lt_of_lt_of_le (by have := World.block_lt_of_cell? _ _ hx167_0; first | rwa [add_block] at this | exact this) GW166.out); replace hx167_0 := (HB.out.cell (World.block_lt_of_cell? w _ hx167_0)).trans hx167_0; replace hx167_1 := (HB.out.cell (World.block_lt_of_cell? w _ hx167_1)).trans hx167_1; replace hx167_2 := (HB.out.cell (World.block_lt_of_cell? w _ hx167_2)).trans hx167_2; replace hx167_3 := (HB.out.cell (World.block_lt_of_cell? w _ hx167_3)).trans hx167_3; replace hx167_0 := (cell_far (p := ⟨gb166, 0, none⟩) (by first | (rw [add_block]; exact hn167_0) | (show (Addr.add _ _).block ≠ _; rw [add_block]; exact hn167_0) | exact hn167_0) (.int .i64 ((rd_T38 l0 x7_1).f0))).trans hx167_0; replace hx167_1 := (cell_far (p := ⟨gb166, 0, none⟩) (by first | (rw [add_block]; exact hn167_0) | (show (Addr.add _ _).block ≠ _; rw [add_block]; exact hn167_0) | exact hn167_0) (.int .i64 ((rd_T38 l0 x7_1).f0))).trans hx167_1; replace hx167_2 := (cell_far (p := ⟨gb166, 0, none⟩) (by first | (rw [add_block]; exact hn167_0) | (show (Addr.add _ _).block ≠ _; rw [add_block]; exact hn167_0) | exact hn167_0) (.int .i64 ((rd_T38 l0 x7_1).f0))).trans hx167_2; replace hx167_3 := (cell_far (p := ⟨gb166, 0, none⟩) (by first | (rw [add_block]; exact hn167_0) | (show (Addr.add _ _).block ≠ _; rw [add_block]; exact hn167_0) | exact hn167_0) (.int .i64 ((rd_T38 l0 x7_1).f0))).trans hx167_3; replace hx167_0 := (cell_far (p := ⟨gb166, 1, none⟩) (by first | (rw [add_block]; exact hn167_1) | (show (Addr.add _ _).block ≠ _; rw [add_block]; exact hn167_1) | exact hn167_1) (.int .i64 ((rd_T38 l0 x7_1).f1))).trans hx167_0; replace hx167_1 := (cell_far (p := ⟨gb166, 1, none⟩) (by first | (rw [add_block]; exact hn167_1) | (show (Addr.add _ _).block ≠ _; rw [add_block]; exact hn167_1) | exact hn167_1) (.int .i64 ((rd_T38 l0 x7_1).f1))).trans hx167_1; replace hx167_2 := (cell_far (p := ⟨gb166, 1, none⟩) (by first | (rw [add_block]; exact hn167_1) | (show (Addr.add _ _).block ≠ _; rw [add_block]; exact hn167_1) | exact hn167_1) (.int .i64 ((rd_T38 l0 x7_1).f1))).trans hx167_2; replace hx167_3 := (cell_far (p := ⟨gb166, 1, none⟩) (by first | (rw [add_block]; exact hn167_1) | (show (Addr.add _ _).block ≠ _; rw [add_block]; exact hn167_1) | exact hn167_1) (.int .i64 ((rd_T38 l0 x7_1).f1))).trans hx167_3; replace hx167_0 := (cell_far (p := ⟨gb166, 2, none⟩) (by first | (rw [add_block]; exact hn167_2) | (show (Addr.add _ _).block ≠ _; rw [add_block]; exact hn167_2) | exact hn167_2) (.int .i64 ((rd_T38 l0 x7_1).f2))).trans hx167_0; replace hx167_1 := (cell_far (p := ⟨gb166, 2, none⟩) (by first | (rw [add_block]; exact hn167_2) | (show (Addr.add _ _).block ≠ _; rw [add_block]; exact hn167_2) | exact hn167_2) (.int .i64 ((rd_T38 l0 x7_1).f2))).trans hx167_1; replace hx167_2 := (cell_far (p := ⟨gb166, 2, none⟩) (by first | (rw [add_block]; exact hn167_2) | (show (Addr.add _ _).block ≠ _; rw [add_block]; exact hn167_2) | exact hn167_2) (.int .i64 ((rd_T38 l0 x7_1).f2))).trans hx167_2; replace hx167_3 := (cell_far (p := ⟨gb166, 2, none⟩) (by first | (rw [add_block]; exact hn167_2) | (show (Addr.add _ _).block ≠ _; rw [add_block]; exact hn167_2) | exact hn167_2) (.int .i64 ((rd_T38 l0 x7_1).f2))).trans hx167_3; replace hx167_0 := (cell_far (p := ⟨gb166, 3, none⟩) (by first | (rw [add_block]; exact hn167_3) | (show (Addr.add _ _).block ≠ _; rw [add_block]; exact hn167_3) | exact hn167_3) (.int .i64 ((rd_T38 l0 x7_1).f3))).trans hx167_0; replace hx167_1 := (cell_far (p := ⟨gb166, 3, none⟩) (by first | (rw [add_block]; exact hn167_3) | (show (Addr.add _ _).block ≠ _; rw [add_block]; exact hn167_3) | exact hn167_3) (.int .i64 ((rd_T38 l0 x7_1).f3))).trans hx167_1; replace hx167_2 := (cell_far (p := ⟨gb166, 3, none⟩) (by first | (rw [add_block]; exact hn167_3) | (show (Addr.add _ _).block ≠ _; rw [add_block]; exact hn167_3) | exact hn167_3) (.int .i64 ((rd_T38 l0 x7_1).f3))).trans hx167_2; replace hx167_3 := (cell_far (p := ⟨gb166, 3, none⟩) (by first | (rw [add_block]; exact hn167_3) | (show (Addr.add _ _).block ≠ _; rw [add_block]; exact hn167_3) | exact hn167_3) (.int .i64 ((rd_T38 l0 x7_1).f3))).trans hx167_3; (try have hy167_0 := fun (n_ : Nat) => (show ((((((w27.drewN n_).setCell ⟨gb166, 0, none⟩ (.int .i64 ((rd_T38 l0 x7_1).f0))).setCell ⟨gb166, 1, none⟩ (.int .i64 ((rd_T38 l0 x7_1).f1))).setCell ⟨gb166, 2, none⟩ (.int .i64 ((rd_T38 l0 x7_1).f2))).setCell ⟨gb166, 3, none⟩ (.int .i64 ((rd_T38 l0 x7_1).f3)))).cell? _ = some _ from hx167_0)); (try have hy167_1 := fun (n_ : Nat) => (show ((((((w27.drewN n_).setCell ⟨gb166, 0, none⟩ (.int .i64 ((rd_T38 l0 x7_1).f0))).setCell ⟨gb166, 1, none⟩ (.int .i64 ((rd_T38 l0 x7_1).f1))).setCell ⟨gb166, 2, none⟩ (.int .i64 ((rd_T38 l0 x7_1).f2))).setCell ⟨gb166, 3, none⟩ (.int .i64 ((rd_T38 l0 x7_1).f3)))).cell? _ = some _ from hx167_1)); (try have hy167_2 := fun (n_ : Nat) => (show ((((((w27.drewN n_).setCell ⟨gb166, 0, none⟩ (.int .i64 ((rd_T38 l0 x7_1).f0))).setCell ⟨gb166, 1, none⟩ (.int .i64 ((rd_T38 l0 x7_1).f1))).setCell ⟨gb166, 2, none⟩ (.int .i64 ((rd_T38 l0 x7_1).f2))).setCell ⟨gb166, 3, none⟩ (.int .i64 ((rd_T38 l0 x7_1).f3)))).cell? _ = some _ from hx167_2)); (try have hy167_3 := fun (n_ : Nat) => (show ((((((w27.drewN n_).setCell ⟨gb166, 0, none⟩ (.int .i64 ((rd_T38 l0 x7_1).f0))).setCell ⟨gb166, 1, none⟩ (.int .i64 ((rd_T38 l0 x7_1).f1))).setCell ⟨gb166, 2, none⟩ (.int .i64 ((rd_T38 l0 x7_1).f2))).setCell ⟨gb166, 3, none⟩ (.int .i64 ((rd_T38 l0 x7_1).f3)))).cell? _ = some _ from hx167_3)); clear hn167_0; clear hn167_1; clear hn167_2; clear hn167_3; replace p167 := eq_true p167; replace q167 := eq_true q167))
               repeat (go_quiet (first | ((with_reducible refine gate_dst (N := 4) rfl ?_); refine box_event ?hg (N := 4) ?hd (cs := #[.int .i64 0, .int .i64 0, .int .i64 0, .int .i64 0]) (t := 38) ?hr ?_; (case hd => rfl); (case hg => rfl); (case hr => first | (go_simp; done) | (go_simp; rfl)); intro gb166 hg w27 hbox hb; have n0_ := Aside0.mk (below_step (by repeat (first | (with_reducible first | exact HB.out | apply below_alloc | apply pw_below_drewN | apply below_drew1) | exact HB.out)) hb); have n1_ := Aside0.mk (hbox); have n2_ := Aside0.mk ((by rw [hg]; exact (below_size (by repeat (first | (with_reducible first | exact HB.out | apply below_alloc | apply pw_below_drewN | apply below_drew1) | exact HB.out))) : w.heap.size ≤ gb166)); have n3_ := Aside0.mk ((by rw [hg]; exact (below_size (by repeat (first | (with_reducible first | exact HB.out | apply below_alloc | apply pw_below_drewN | apply below_drew1) | exact HB.out))) : w.heap.size ≤ gb166)); clear HB; have HB := n0_; have BK166 := n1_; have GW166 := n2_; have GE166 := n3_; clear n0_ n1_ n2_ n3_; clear hb hbox hg; have hcz28_0 : w27.cell? ⟨gb166, 0, none⟩ = some (.int .i64 0) := (blk_cell BK166.out 0).trans rfl; have hcz28_1 : w27.cell? ⟨gb166, 1, none⟩ = some (.int .i64 0) := (blk_cell BK166.out 1).trans rfl; have hcz28_2 : w27.cell? ⟨gb166, 2, none⟩ = some (.int .i64 0) := (blk_cell BK166.out 2).trans rfl; have hcz28_3 : w27.cell? ⟨gb166, 3, none⟩ = some (.int .i64 0) := (blk_cell BK166.out 3).trans rfl; have hfz28_0 := blk_frozen BK166.out 0; have hfz28_1 := blk_frozen BK166.out 1; have hfz28_2 := blk_frozen BK166.out 2; have hfz28_3 := blk_frozen BK166.out 3; have p167 : 0 ≤ ((ji21) : Int) := of_decide_eq_true (by first | (with_reducible assumption) | assumption); have q167 : (ji21) < (l0.length : Int) := of_decide_eq_true (by first | (with_reducible assumption) | assumption); obtain ⟨ad167, e167, hx167_0, hx167_1, hx167_2, hx167_3⟩ := at_T38 HR0.out (ji21) p167 q167; obtain rfl : ad165 = ad167 := (by injection e167); have hn167_0 : ad165.block ≠ gb166 := Nat.ne_of_lt (Nat.lt_of_lt_of_le (by have := World.block_lt_of_cell? _ _ hx167_0; first | rwa [add_block] at this | exact this) GW166.out); have hn167_1 : ad165.block ≠ gb166 := Nat.ne_of_lt (Nat.lt_of_lt_of_le (by have := World.block_lt_of_cell? _ _ hx167_0; first | rwa [add_block] at this | exact this) GW166.out); have hn167_2 : ad165.block ≠ gb166 := Nat.ne_of_lt (Nat.lt_of_lt_of_le (by have := World.block_lt_of_cell? _ _ hx167_0; first | rwa [add_block] at this | exact this) GW166.out); have hn167_3 : ad165.block ≠ gb166 := Nat.ne_of_lt (Nat.lt_of_lt_of_le (by have := World.block_lt_of_cell? _ _ hx167_0; first | rwa [add_block] at this | exact this) GW166.out); replace hx167_0 := (HB.out.cell (World.block_lt_of_cell? w _ hx167_0)).trans hx167_0; replace hx167_1 := (HB.out.cell (World.block_lt_of_cell? w _ hx167_1)).trans hx167_1; replace hx167_2 := (HB.out.cell (World.block_lt_of_cell? w _ hx167_2)).trans hx167_2; replace hx167_3 := (HB.out.cell (World.block_lt_of_cell? w _ hx167_3)).trans hx167_3; replace hx167_0 := (cell_far (p := ⟨gb166, 0, none⟩) (by first | (rw [add_block]; exact hn167_0) | (show (Addr.add _ _).block ≠ _; rw [add_block]; exact hn167_0) | exact hn167_0) (.int .i64 ((rd_T38 l0 x7_1).f0))).trans hx167_0; replace hx167_1 := (cell_far (p := ⟨gb166, 0, none⟩) (by first | (rw [add_block]; exact hn167_0) | (show (Addr.add _ _).block ≠ _; rw [add_block]; exact hn167_0) | exact hn167_0) (.int .i64 ((rd_T38 l0 x7_1).f0))).trans hx167_1; replace hx167_2 := (cell_far (p := ⟨gb166, 0, none⟩) (by first | (rw [add_block]; exact hn167_0) | (show (Addr.add _ _).block ≠ _; rw [add_block]; exact hn167_0) | exact hn167_0) (.int .i64 ((rd_T38 l0 x7_1).f0))).trans hx167_2; replace hx167_3 := (cell_far (p := ⟨gb166, 0, none⟩) (by first | (rw [add_block]; exact hn167_0) | (show (Addr.add _ _).block ≠ _; rw [add_block]; exact hn167_0) | exact hn167_0) (.int .i64 ((rd_T38 l0 x7_1).f0))).trans hx167_3; replace hx167_0 := (cell_far (p := ⟨gb166, 1, none⟩) (by first | (rw [add_block]; exact hn167_1) | (show (Addr.add _ _).block ≠ _; rw [add_block]; exact hn167_1) | exact hn167_1) (.int .i64 ((rd_T38 l0 x7_1).f1))).trans hx167_0; replace hx167_1 := (cell_far (p := ⟨gb166, 1, none⟩) (by first | (rw [add_block]; exact hn167_1) | (show (Addr.add _ _).block ≠ _; rw [add_block]; exact hn167_1) | exact hn167_1) (.int .i64 ((rd_T38 l0 x7_1).f1))).trans hx167_1; replace hx167_2 := (cell_far (p := ⟨gb166, 1, none⟩) (by first | (rw [add_block]; exact hn167_1) | (show (Addr.add _ _).block ≠ _; rw [add_block]; exact hn167_1) | exact hn167_1) (.int .i64 ((rd_T38 l0 x7_1).f1))).trans hx167_2; replace hx167_3 := (cell_far (p := ⟨gb166, 1, none⟩) (by first | (rw [add_block]; exact hn167_1) | (show (Addr.add _ _).block ≠ _; rw [add_block]; exact hn167_1) | exact hn167_1) (.int .i64 ((rd_T38 l0 x7_1).f1))).trans hx167_3; replace hx167_0 := (cell_far (p := ⟨gb166, 2, none⟩) (by first | (rw [add_block]; exact hn167_2) | (show (Addr.add _ _).block ≠ _; rw [add_block]; exact hn167_2) | exact hn167_2) (.int .i64 ((rd_T38 l0 x7_1).f2))).trans hx167_0; replace hx167_1 := (cell_far (p := ⟨gb166, 2, none⟩) (by first | (rw [add_block]; exact hn167_2) | (show (Addr.add _ _).block ≠ _; rw [add_block]; exact hn167_2) | exact hn167_2) (.int .i64 ((rd_T38 l0 x7_1).f2))).trans hx167_1; replace hx167_2 := (cell_far (p := ⟨gb166, 2, none⟩) (by first | (rw [add_block]; exact hn167_2) | (show (Addr.add _ _).block ≠ _; rw [add_block]; exact hn167_2) | exact hn167_2) (.int .i64 ((rd_T38 l0 x7_1).f2))).trans hx167_2; replace hx167_3 := (cell_far (p := ⟨gb166, 2, none⟩) (by first | (rw [add_block]; exact hn167_2) | (show (Addr.add _ _).block ≠ _; rw [add_block]; exact hn167_2) | exact hn167_2) (.int .i64 ((rd_T38 l0 x7_1).f2))).trans hx167_3; replace hx167_0 := (cell_far (p := ⟨gb166, 3, none⟩) (by first | (rw [add_block]; exact hn167_3) | (show (Addr.add _ _).block ≠ _; rw [add_block]; exact hn167_3) | exact hn167_3) (.int .i64 ((rd_T38 l0 x7_1).f3))).trans hx167_0; replace hx167_1 := (cell_far (p := ⟨gb166, 3, none⟩) (by first | (rw [add_block]; exact hn167_3) | (show (Addr.add _ _).block ≠ _; rw [add_block]; exact hn167_3) | exact hn167_3) (.int .i64 ((rd_T38 l0 x7_1).f3))).trans hx167_1; replace hx167_2 := (cell_far (p := ⟨gb166, 3, none⟩) (by first | (rw [add_block]; exact hn167_3) | (show (Addr.add _ _).block ≠ _; rw [add_block]; exact hn167_3) | exact hn167_3) (.int .i64 ((rd_T38 l0 x7_1).f3))).trans hx167_2; replace hx167_3 := (cell_far (p := ⟨gb166, 3, none⟩) (by first | (rw [add_block]; exact hn167_3) | (show (Addr.add _ _).block ≠ _; rw [add_block]; exact hn167_3) | exact hn167_3) (.int .i64 ((rd_T38 l0 x7_1).f3))).trans hx167_3; (try have hy167_0 := fun (n_ : Nat) => (show ((((((w27.drewN n_).setCell ⟨gb166, 0, none⟩ (.int .i64 ((rd_T38 l0 x7_1).f0))).setCell ⟨gb166, 1, none⟩ (.int .i64 ((rd_T38 l0 x7_1).f1))).setCell ⟨gb166, 2, none⟩ (.int .i64 ((rd_T38 l0 x7_1).f2))).setCell ⟨gb166, 3, none⟩ (.int .i64 ((rd_T38 l0 x7_1).f3)))).cell? _ = some _ from hx167_0)); (try have hy167_1 := fun (n_ : Nat) => (show ((((((w27.drewN n_).setCell ⟨gb166, 0, none⟩ (.int .i64 ((rd_T38 l0 x7_1).f0))).setCell ⟨gb166, 1, none⟩ (.int .i64 ((rd_T38 l0 x7_1).f1))).setCell ⟨gb166, 2, none⟩ (.int .i64 ((rd_T38 l0 x7_1).f2))).setCell ⟨gb166, 3, none⟩ (.int .i64 ((rd_T38 l0 x7_1).f3)))).cell? _ = some _ from hx167_1)); (try have hy167_2 := fun (n_ : Nat) => (show ((((((w27.drewN n_).setCell ⟨gb166, 0, none⟩ (.int .i64 ((rd_T38 l0 x7_1).f0))).setCell ⟨gb166, 1, none⟩ (.int .i64 ((rd_T38 l0 x7_1).f1))).setCell ⟨gb166, 2, none⟩ (.int .i64 ((rd_T38 l0 x7_1).f2))).setCell ⟨gb166, 3, none⟩ (.int .i64 ((rd_T38 l0 x7_1).f3)))).cell? _ = some _ from hx167_2)); (try have hy167_3 := fun (n_ : Nat) => (show ((((((w27.drewN n_).setCell ⟨gb166, 0, none⟩ (.int .i64 ((rd_T38 l0 x7_1).f0))).setCell ⟨gb166, 1, none⟩ (.int .i64 ((rd_T38 l0 x7_1).f1))).setCell ⟨gb166, 2, none⟩ (.int .i64 ((rd_T38 l0 x7_1).f2))).setCell ⟨gb166, 3, none⟩ (.int .i64 ((rd_T38 l0 x7_1).f3)))).cell? _ = some _ from hx167_3)); clear hn167_0; clear hn167_1; clear hn167_2; clear hn167_3; replace p167 := eq_true p167; replace q167 := eq_true q167)); try go_wp2_with (first | ((with_reducible refine gate_dst (N := 4) rfl ?_); refine box_event ?hg (N := 4) ?hd (cs := #[.int .i64 0, .int .i64 0, .int .i64 0, .int .i64 0]) (t := 38) ?hr ?_; (case hd => rfl); (case hg => rfl); (case hr => first | (go_simp; done) | (go_simp; rfl)); intro gb166 hg w27 hbox hb; have n0_ := Aside0.mk (below_step (by repeat (first | (with_reducible first | exact HB.out | apply below_alloc | apply pw_below_drewN | apply below_drew1) | exact HB.out)) hb); have n1_ := Aside0.mk (hbox); have n2_ := Aside0.mk ((by rw [hg]; exact (below_size (by repeat (first | (with_reducible first | exact HB.out | apply below_alloc | apply pw_below_drewN | apply below_drew1) | exact HB.out))) : w.heap.size ≤ gb166)); have n3_ := Aside0.mk ((by rw [hg]; exact (below_size (by repeat (first | (with_reducible first | exact HB.out | apply below_alloc | apply pw_below_drewN | apply below_drew1) | exact HB.out))) : w.heap.size ≤ gb166)); clear HB; have HB := n0_; have BK166 := n1_; have GW166 := n2_; have GE166 := n3_; clear n0_ n1_ n2_ n3_; clear hb hbox hg; have hcz28_0 : w27.cell? ⟨gb166, 0, none⟩ = some (.int .i64 0) := (blk_cell BK166.out 0).trans rfl; have hcz28_1 : w27.cell? ⟨gb166, 1, none⟩ = some (.int .i64 0) := (blk_cell BK166.out 1).trans rfl; have hcz28_2 : w27.cell? ⟨gb166, 2, none⟩ = some (.int .i64 0) := (blk_cell BK166.out 2).trans rfl; have hcz28_3 : w27.cell? ⟨gb166, 3, none⟩ = some (.int .i64 0) := (blk_cell BK166.out 3).trans rfl; have hfz28_0 := blk_frozen BK166.out 0; have hfz28_1 := blk_frozen BK166.out 1; have hfz28_2 := blk_frozen BK166.out 2; have hfz28_3 := blk_frozen BK166.out 3; have p167 : 0 ≤ ((ji21) : Int) := of_decide_eq_true (by first | (with_reducible assumption) | assumption); have q167 : (ji21) < (l0.length : Int) := of_decide_eq_true (by first | (with_reducible assumption) | assumption); obtain ⟨ad167, e167, hx167_0, hx167_1, hx167_2, hx167_3⟩ := at_T38 HR0.out (ji21) p167 q167; obtain rfl : ad165 = ad167 := (by injection e167); have hn167_0 : ad165.block ≠ gb166 := Nat.ne_of_lt (Nat.lt_of_lt_of_le (by have := World.block_lt_of_cell? _ _ hx167_0; first | rwa [add_block] at this | exact this) GW166.out); have hn167_1 : ad165.block ≠ gb166 := Nat.ne_of_lt (Nat.lt_of_lt_of_le (by have := World.block_lt_of_cell? _ _ hx167_0; first | rwa [add_block] at this | exact this) GW166.out); have hn167_2 : ad165.block ≠ gb166 := Nat.ne_of_lt (Nat.lt_of_lt_of_le (by have := World.block_lt_of_cell? _ _ hx167_0; first | rwa [add_block] at this | exact this) GW166.out); have hn167_3 : ad165.block ≠ gb166 := Nat.ne_of_lt (Nat.lt_of_lt_of_le (by have := World.block_lt_of_cell? _ _ hx167_0; first | rwa [add_block] at this | exact this) GW166.out); replace hx167_0 := (HB.out.cell (World.block_lt_of_cell? w _ hx167_0)).trans hx167_0; replace hx167_1 := (HB.out.cell (World.block_lt_of_cell? w _ hx167_1)).trans hx167_1; replace hx167_2 := (HB.out.cell (World.block_lt_of_cell? w _ hx167_2)).trans hx167_2; replace hx167_3 := (HB.out.cell (World.block_lt_of_cell? w _ hx167_3)).trans hx167_3; replace hx167_0 := (cell_far (p := ⟨gb166, 0, none⟩) (by first | (rw [add_block]; exact hn167_0) | (show (Addr.add _ _).block ≠ _; rw [add_block]; exact hn167_0) | exact hn167_0) (.int .i64 ((rd_T38 l0 x7_1).f0))).trans hx167_0; replace hx167_1 := (cell_far (p := ⟨gb166, 0, none⟩) (by first | (rw [add_block]; exact hn167_0) | (show (Addr.add _ _).block ≠ _; rw [add_block]; exact hn167_0) | exact hn167_0) (.int .i64 ((rd_T38 l0 x7_1).f0))).trans hx167_1; replace hx167_2 := (cell_far (p := ⟨gb166, 0, none⟩) (by first | (rw [add_block]; exact hn167_0) | (show (Addr.add _ _).block ≠ _; rw [add_block]; exact hn167_0) | exact hn167_0) (.int .i64 ((rd_T38 l0 x7_1).f0))).trans hx167_2; replace hx167_3 := (cell_far (p := ⟨gb166, 0, none⟩) (by first | (rw [add_block]; exact hn167_0) | (show (Addr.add _ _).block ≠ _; rw [add_block]; exact hn167_0) | exact hn167_0) (.int .i64 ((rd_T38 l0 x7_1).f0))).trans hx167_3; replace hx167_0 := (cell_far (p := ⟨gb166, 1, none⟩) (by first | (rw [add_block]; exact hn167_1) | (show (Addr.add _ _).block ≠ _; rw [add_block]; exact hn167_1) | exact hn167_1) (.int .i64 ((rd_T38 l0 x7_1).f1))).trans hx167_0; replace hx167_1 := (cell_far (p := ⟨gb166, 1, none⟩) (by first | (rw [add_block]; exact hn167_1) | (show (Addr.add _ _).block ≠ _; rw [add_block]; exact hn167_1) | exact hn167_1) (.int .i64 ((rd_T38 l0 x7_1).f1))).trans hx167_1; replace hx167_2 := (cell_far (p := ⟨gb166, 1, none⟩) (by first | (rw [add_block]; exact hn167_1) | (show (Addr.add _ _).block ≠ _; rw [add_block]; exact hn167_1) | exact hn167_1) (.int .i64 ((rd_T38 l0 x7_1).f1))).trans hx167_2; replace hx167_3 := (cell_far (p := ⟨gb166, 1, none⟩) (by first | (rw [add_block]; exact hn167_1) | (show (Addr.add _ _).block ≠ _; rw [add_block]; exact hn167_1) | exact hn167_1) (.int .i64 ((rd_T38 l0 x7_1).f1))).trans hx167_3; replace hx167_0 := (cell_far (p := ⟨gb166, 2, none⟩) (by first | (rw [add_block]; exact hn167_2) | (show (Addr.add _ _).block ≠ _; rw [add_block]; exact hn167_2) | exact hn167_2) (.int .i64 ((rd_T38 l0 x7_1).f2))).trans hx167_0; replace hx167_1 := (cell_far (p := ⟨gb166, 2, none⟩) (by first | (rw [add_block]; exact hn167_2) | (show (Addr.add _ _).block ≠ _; rw [add_block]; exact hn167_2) | exact hn167_2) (.int .i64 ((rd_T38 l0 x7_1).f2))).trans hx167_1; replace hx167_2 := (cell_far (p := ⟨gb166, 2, none⟩) (by first | (rw [add_block]; exact hn167_2) | (show (Addr.add _ _).block ≠ _; rw [add_block]; exact hn167_2) | exact hn167_2) (.int .i64 ((rd_T38 l0 x7_1).f2))).trans hx167_2; replace hx167_3 := (cell_far (p := ⟨gb166, 2, none⟩) (by first | (rw [add_block]; exact hn167_2) | (show (Addr.add _ _).block ≠ _; rw [add_block]; exact hn167_2) | exact hn167_2) (.int .i64 ((rd_T38 l0 x7_1).f2))).trans hx167_3; replace hx167_0 := (cell_far (p := ⟨gb166, 3, none⟩) (by first | (rw [add_block]; exact hn167_3) | (show (Addr.add _ _).block ≠ _; rw [add_block]; exact hn167_3) | exact hn167_3) (.int .i64 ((rd_T38 l0 x7_1).f3))).trans hx167_0; replace hx167_1 := (cell_far (p := ⟨gb166, 3, none⟩) (by first | (rw [add_block]; exact hn167_3) | (show (Addr.add _ _).block ≠ _; rw [add_block]; exact hn167_3) | exact hn167_3) (.int .i64 ((rd_T38 l0 x7_1).f3))).trans hx167_1; replace hx167_2 := (cell_far (p := ⟨gb166, 3, none⟩) (by first | (rw [add_block]; exact hn167_3) | (show (Addr.add _ _).block ≠ _; rw [add_block]; exact hn167_3) | exact hn167_3) (.int .i64 ((rd_T38 l0 x7_1).f3))).trans hx167_2; replace hx167_3 := (cell_far (p := ⟨gb166, 3, none⟩) (by first | (rw [add_block]; exact hn167_3) | (show (Addr.add _ _).block ≠ _; rw [add_block]; exact hn167_3) | exact hn167_3) (.int .i64 ((rd_T38 l0 x7_1).f3))).trans hx167_3; (try have hy167_0 := fun (n_ : Nat) => (show ((((((w27.drewN n_).setCell ⟨gb166, 0, none⟩ (.int .i64 ((rd_T38 l0 x7_1).f0))).setCell ⟨gb166, 1, none⟩ (.int .i64 ((rd_T38 l0 x7_1).f1))).setCell ⟨gb166, 2, none⟩ (.int .i64 ((rd_T38 l0 x7_1).f2))).setCell ⟨gb166, 3, none⟩ (.int .i64 ((rd_T38 l0 x7_1).f3)))).cell? _ = some _ from hx167_0)); (try have hy167_1 := fun (n_ : Nat) => (show ((((((w27.drewN n_).setCell ⟨gb166, 0, none⟩ (.int .i64 ((rd_T38 l0 x7_1).f0))).setCell ⟨gb166, 1, none⟩ (.int .i64 ((rd_T38 l0 x7_1).f1))).setCell ⟨gb166, 2, none⟩ (.int .i64 ((rd_T38 l0 x7_1).f2))).setCell ⟨gb166, 3, none⟩ (.int .i64 ((rd_T38 l0 x7_1).f3)))).cell? _ = some _ from hx167_1)); (try have hy167_2 := fun (n_ : Nat) => (show ((((((w27.drewN n_).setCell ⟨gb166, 0, none⟩ (.int .i64 ((rd_T38 l0 x7_1).f0))).setCell ⟨gb166, 1, none⟩ (.int .i64 ((rd_T38 l0 x7_1).f1))).setCell ⟨gb166, 2, none⟩ (.int .i64 ((rd_T38 l0 x7_1).f2))).setCell ⟨gb166, 3, none⟩ (.int .i64 ((rd_T38 l0 x7_1).f3)))).cell? _ = some _ from hx167_2)); (try have hy167_3 := fun (n_ : Nat) => (show ((((((w27.drewN n_).setCell ⟨gb166, 0, none⟩ (.int .i64 ((rd_T38 l0 x7_1).f0))).setCell ⟨gb166, 1, none⟩ (.int .i64 ((rd_T38 l0 x7_1).f1))).setCell ⟨gb166, 2, none⟩ (.int .i64 ((rd_T38 l0 x7_1).f2))).setCell ⟨gb166, 3, none⟩ (.int .i64 ((rd_T38 l0 x7_1).f3)))).cell? _ = some _ from hx167_3)); clear hn167_0; clear hn167_1; clear hn167_2; clear hn167_3; replace p167 := eq_true p167; replace q167 := eq_true q167)))
               go_roundg k1
               case measure => have := HK1.out; omega
               case rel => exact ⟨(wrap64 (x7_1 + 1)), (by first | rfl | (simp; done) | (simp [*]; done)), H', ⟨by have := HK1.out; omega⟩, ⟨by repeat (first | (with_reducible first | exact HB.out | apply below_alloc | apply pw_below_drewN | apply below_drew1 | refine below_set ?_ GE166.out) | exact HB.out)⟩⟩
             ·rw [if_neg c23] at H
              exact absurd H (by simp)
            ·rw [if_neg c22] at H
             exact absurd H (by simp)
           ·rw [if_neg c20] at H
            have c20b0 : decide (0 < x7_1) = false := decide_eq_false c20
            clear c20
            have H' := Aside0.mk H
            clear H
            have p165 : 0 ≤ (x7_1 : Int) := of_decide_eq_true (by first | (with_reducible assumption) | assumption)
            have q165 : x7_1 < (l0.length : Int) := of_decide_eq_true (by first | (with_reducible assumption) | assumption)
            obtain ⟨ad165, e165, hx165_0, hx165_1, hx165_2, hx165_3⟩ := at_T38 HR0.out x7_1 p165 q165
            cases e165
            replace hx165_0 := (HB.out.cell (World.block_lt_of_cell? w _ hx165_0)).trans hx165_0
            replace hx165_1 := (HB.out.cell (World.block_lt_of_cell? w _ hx165_1)).trans hx165_1
            replace hx165_2 := (HB.out.cell (World.block_lt_of_cell? w _ hx165_2)).trans hx165_2
            replace hx165_3 := (HB.out.cell (World.block_lt_of_cell? w _ hx165_3)).trans hx165_3
            replace p165 := eq_true p165
            replace q165 := eq_true q165
            go_wp2_with (first | ((with_reducible refine gate_dst (N := 4) rfl ?_); refine box_event ?hg (N := 4) ?hd (cs := #[.int .i64 0, .int .i64 0, .int .i64 0, .int .i64 0]) (t := 38) ?hr ?_; (case hd => rfl); (case hg => rfl); (case hr => first | (go_simp; done) | (go_simp; rfl)); intro gb166 hg w29 hbox hb; have n0_ := Aside0.mk (below_step (by repeat (first | (with_reducible first | exact HB.out | apply below_alloc | apply pw_below_drewN | apply below_drew1) | exact HB.out)) hb); have n1_ := Aside0.mk (hbox); have n2_ := Aside0.mk ((by rw [hg]; exact (below_size (by repeat (first | (with_reducible first | exact HB.out | apply below_alloc | apply pw_below_drewN | apply below_drew1) | exact HB.out))) : w.heap.size ≤ gb166)); have n3_ := Aside0.mk ((by rw [hg]; exact (below_size (by repeat (first | (with_reducible first | exact HB.out | apply below_alloc | apply pw_below_drewN | apply below_drew1) | exact HB.out))) : w.heap.size ≤ gb166)); clear HB; have HB := n0_; have BK166 := n1_; have GW166 := n2_; have GE166 := n3_; clear n0_ n1_ n2_ n3_; clear hb hbox hg; have hcz30_0 : w29.cell? ⟨gb166, 0, none⟩ = some (.int .i64 0) := (blk_cell BK166.out 0).trans rfl; have hcz30_1 : w29.cell? ⟨gb166, 1, none⟩ = some (.int .i64 0) := (blk_cell BK166.out 1).trans rfl; have hcz30_2 : w29.cell? ⟨gb166, 2, none⟩ = some (.int .i64 0) := (blk_cell BK166.out 2).trans rfl; have hcz30_3 : w29.cell? ⟨gb166, 3, none⟩ = some (.int .i64 0) := (blk_cell BK166.out 3).trans rfl; have hfz30_0 := blk_frozen BK166.out 0; have hfz30_1 := blk_frozen BK166.out 1; have hfz30_2 := blk_frozen BK166.out 2; have hfz30_3 := blk_frozen BK166.out 3))
            repeat (go_quiet (first | ((with_reducible refine gate_dst (N := 4) rfl ?_); refine box_event ?hg (N := 4) ?hd (cs := #[.int .i64 0, .int .i64 0, .int .i64 0, .int .i64 0]) (t := 38) ?hr ?_; (case hd => rfl); (case hg => rfl); (case hr => first | (go_simp; done) | (go_simp; rfl)); intro gb166 hg w29 hbox hb; have n0_ := Aside0.mk (below_step (by repeat (first | (with_reducible first | exact HB.out | apply below_alloc | apply pw_below_drewN | apply below_drew1) | exact HB.out)) hb); have n1_ := Aside0.mk (hbox); have n2_ := Aside0.mk ((by rw [hg]; exact (below_size (by repeat (first | (with_reducible first | exact HB.out | apply below_alloc | apply pw_below_drewN | apply below_drew1) | exact HB.out))) : w.heap.size ≤ gb166)); have n3_ := Aside0.mk ((by rw [hg]; exact (below_size (by repeat (first | (with_reducible first | exact HB.out | apply below_alloc | apply pw_below_drewN | apply below_drew1) | exact HB.out))) : w.heap.size ≤ gb166)); clear HB; have HB := n0_; have BK166 := n1_; have GW166 := n2_; have GE166 := n3_; clear n0_ n1_ n2_ n3_; clear hb hbox hg; have hcz30_0 : w29.cell? ⟨gb166, 0, none⟩ = some (.int .i64 0) := (blk_cell BK166.out 0).trans rfl; have hcz30_1 : w29.cell? ⟨gb166, 1, none⟩ = some (.int .i64 0) := (blk_cell BK166.out 1).trans rfl; have hcz30_2 : w29.cell? ⟨gb166, 2, none⟩ = some (.int .i64 0) := (blk_cell BK166.out 2).trans rfl; have hcz30_3 : w29.cell? ⟨gb166, 3, none⟩ = some (.int .i64 0) := (blk_cell BK166.out 3).trans rfl; have hfz30_0 := blk_frozen BK166.out 0; have hfz30_1 := blk_frozen BK166.out 1; have hfz30_2 := blk_frozen BK166.out 2; have hfz30_3 := blk_frozen BK166.out 3)); try go_wp2_with (first | ((with_reducible refine gate_dst (N := 4) rfl ?_); refine box_event ?hg (N := 4) ?hd (cs := #[.int .i64 0, .int .i64 0, .int .i64 0, .int .i64 0]) (t := 38) ?hr ?_; (case hd => rfl); (case hg => rfl); (case hr => first | (go_simp; done) | (go_simp; rfl)); intro gb166 hg w29 hbox hb; have n0_ := Aside0.mk (below_step (by repeat (first | (with_reducible first | exact HB.out | apply below_alloc | apply pw_below_drewN | apply below_drew1) | exact HB.out)) hb); have n1_ := Aside0.mk (hbox); have n2_ := Aside0.mk ((by rw [hg]; exact (below_size (by repeat (first | (with_reducible first | exact HB.out | apply below_alloc | apply pw_below_drewN | apply below_drew1) | exact HB.out))) : w.heap.size ≤ gb166)); have n3_ := Aside0.mk ((by rw [hg]; exact (below_size (by repeat (first | (with_reducible first | exact HB.out | apply below_alloc | apply pw_below_drewN | apply below_drew1) | exact HB.out))) : w.heap.size ≤ gb166)); clear HB; have HB := n0_; have BK166 := n1_; have GW166 := n2_; have GE166 := n3_; clear n0_ n1_ n2_ n3_; clear hb hbox hg; have hcz30_0 : w29.cell? ⟨gb166, 0, none⟩ = some (.int .i64 0) := (blk_cell BK166.out 0).trans rfl; have hcz30_1 : w29.cell? ⟨gb166, 1, none⟩ = some (.int .i64 0) := (blk_cell BK166.out 1).trans rfl; have hcz30_2 : w29.cell? ⟨gb166, 2, none⟩ = some (.int .i64 0) := (blk_cell BK166.out 2).trans rfl; have hcz30_3 : w29.cell? ⟨gb166, 3, none⟩ = some (.int .i64 0) := (blk_cell BK166.out 3).trans rfl; have hfz30_0 := blk_frozen BK166.out 0; have hfz30_1 := blk_frozen BK166.out 1; have hfz30_2 := blk_frozen BK166.out 2; have hfz30_3 := blk_frozen BK166.out 3)))
            go_roundg k1
            case measure => have := HK1.out; omega
            case rel => exact ⟨(wrap64 (x7_1 + 1)), (by first | rfl | (simp; done) | (simp [*]; done)), H', ⟨by have := HK1.out; omega⟩, ⟨by repeat (first | (with_reducible first | exact HB.out | apply below_alloc | apply pw_below_drewN | apply below_drew1 | refine below_set ?_ GE166.out) | exact HB.out)⟩⟩
     ·rw [if_neg c4] at H
      exact absurd H (by simp)
    ·rw [if_neg c3] at H
     exact absurd H (by simp)
   ·rw [if_neg c2] at H
    have c2b0 : decide (x7_1 < (l0.length : Int)) = false := decide_eq_false c2
    clear c2
    obtain rfl := Option.some.inj H
    go_wp2
    repeat (go_quiet (fail); try go_wp2)
    go_ret
    exact ⟨by first | rfl | (simp [errW_none, errW_some] <;> rfl) | (simp [*, errW_none, errW_some] <;> rfl), by repeat (first | (with_reducible first | exact HB.out | apply below_alloc | apply pw_below_drewN | apply below_drew1) | exact HB.out)⟩

end Go.Proofs.YtmolcgkahhdkgaaDoor.P
