-- printed by wip/tools/myprint.py out of the translation. Not trusted: Lean checks it.
import Derived.Test.YtpndeninbokjoaaDoorPx0
namespace Go.Proofs.YtpndeninbokjoaaDoor.P
open Go.RowKit Go.Proofs.YtpndeninbokjoaaDoorW.PrintWords Go.Proofs.YtpndeninbokjoaaDoorW.PrintLast Go.Proofs.YtpndeninbokjoaaDoorW.PrintMore
attribute [local go_sem] max2_int min2_int max_two min_two max_three min_three max_four min_four   -- for this text's walks alone
set_option linter.unusedVariables false
set_option linter.unusedSimpArgs false

/-! ### operand_reader_peek: function 24 -/
/-! ### operands out of tokens: what is read, as plain Lean -/
def tk (L : List S29) (p : Nat) : S29 := L.getD p ⟨0, ⟨#[]⟩, 0⟩
/-- The reader's state: it stands in block g. -/
structure Rd (w0 w : World) (g : Nat) (A : Option Addr) (c : Nat) (L : List S29) (p : Nat) (E : Int) : Prop where
  blk : w.heap[g]? = some (.cells #[.slice A L.length c, .int .i64 (p : Int), .int .i64 E] 42 (0, 0))
  row : Kd.C k29 w0 A L.length L
  cap : L.length ≤ c
  ge : w0.heap.size ≤ g
  below : Below w0.heap.size w0 w
  len : L.length ≤ 1000000
theorem Rd.after {w0 w w1 : World} {g : Nat} {A : Option Addr} {c : Nat} {L : List S29} {p : Nat} {E : Int} (h : Rd w0 w g A c L p E) (hb : Below w.heap.size w w1) : Rd w0 w1 g A c L p E :=
  ⟨blk_below h.blk hb, h.row, h.cap, h.ge, h.below.trans (hb.mono h.below.size), h.len⟩
theorem Rd.keep {w0 w : World} {g : Nat} {A : Option Addr} {c : Nat} {L : List S29} {p : Nat} {E : Int} (h : Rd w0 w g A c L p E) : g < w.heap.size := blk_lt h.blk
/-- What panics here: a value of the type formless. -/
abbrev pnc (e : Ending) : Prop := ∃ t v, e = .panicked [{ v := .iface t v, recovered := false }]
theorem tk_at {L : List S29} {p : Nat} (h : p < L.length) : rd_T29 L (p : Int) = tk L p := by
  unfold rd_T29 tk
  rw [Int.toNat_natCast, List.getD_eq_getElem?_getD, List.getD_eq_getElem?_getD, List.getElem?_eq_getElem h]
  rfl
theorem tk_end {L : List S29} {p : Nat} (h : L.length ≤ p) : tk L p = ⟨0, ⟨#[]⟩, 0⟩ := by
  unfold tk
  rw [List.getD_eq_getElem?_getD, List.getElem?_eq_none h]
  rfl
abbrev tokW (w : World) (n : Nat) (a : Int) (s : ByteArray) (v : Int) : World := ((((w.alloc (.cells #[.int .i64 0, .string ⟨#[]⟩, .int .u64 0] 29)).drewN n).setCell ⟨w.heap.size, 0, none⟩ (.int .i64 a)).setCell ⟨w.heap.size, 1, none⟩ (.string s)).setCell ⟨w.heap.size, 2, none⟩ (.int .u64 v)
theorem tok_box (w : World) (n : Nat) (a : Int) (s : ByteArray) (v : Int) : (tokW w n a s v).heap[w.heap.size]? = some (.cells #[.int .i64 a, .string s, .int .u64 v] 29 (0, 0)) :=
  blk_put (blk_put (blk_put (blk_drewN (blk_new w _) n) 0 _ rfl) 1 _ rfl) 2 _ rfl
theorem tok_below (w : World) (n : Nat) (a : Int) (s : ByteArray) (v : Int) : Below w.heap.size w (tokW w n a s v) :=
  (((pw_below_drewN (below_alloc (Below.refl _ _) _) n).setCell (p := ⟨w.heap.size, 0, none⟩) (Nat.le_refl _) _).setCell (p := ⟨w.heap.size, 1, none⟩) (Nat.le_refl _) _).setCell (p := ⟨w.heap.size, 2, none⟩) (Nat.le_refl _) _
set_option maxHeartbeats 4000000 in
set_option maxRecDepth 100000 in
theorem rd_peek (w0 w : World) (g : Nat) (A : Option Addr) (c : Nat) (L : List S29) (p : Nat) (E : Int) (H : Aside0 (Rd w0 w g A c L p E)) :
    Calls Tryd.prog 24 #[.pointer (some ⟨g, 0, none⟩)] w fun e w' => e = .returned (.agg #[.int .i64 (tk L p).f0, .string (tk L p).f1, .int .u64 (tk L p).f2]) ∧ Below w.heap.size w w' := by
  have h0 : w.cell? ⟨g, 0, none⟩ = some (.slice A L.length c) := (blk_cell H.out.blk 0).trans rfl
  have h1 : w.cell? ⟨g, 1, none⟩ = some (.int .i64 (p : Int)) := (blk_cell H.out.blk 1).trans rfl
  have hz29 := Tryd.zeroValue29
  have HBa : ∀ o, (w.alloc o).cell? ⟨g, 0, none⟩ = some (.slice A L.length c) := fun o => (blk_cell (blk_alloc H.out.blk o) 0).trans rfl
  have HBb : ∀ o, (w.alloc o).cell? ⟨g, 1, none⟩ = some (.int .i64 (p : Int)) := fun o => (blk_cell (blk_alloc H.out.blk o) 1).trans rfl
  by_cases hp : L.length ≤ p
  · have c1 : decide ((L.length : Int) ≤ (p : Int)) = true := decide_eq_true (by omega)
    have c2 : decide (L.length ≤ p) = true := decide_eq_true hp
    rw [tk_end hp]
    clear hp
    go_enter Tryd.func24, Tryd.ntmps24
    go_wp2
    go_quiet (fail)
    go_wp2
    refine bodyPost_ret (results_cell_row rfl _ _ w.heap.size 29 #[.int .i64 0, .string ⟨#[]⟩, .int .u64 0] (0, 0) _ rfl (tok_box w _ 0 ⟨#[]⟩ 0) Tryd.underlying29 rfl (by kernel_rfl)) rfl ?_
    exact ⟨rfl, tok_below w _ _ _ _⟩
  · have c1 : decide ((L.length : Int) ≤ (p : Int)) = false := decide_eq_false (by omega)
    have c2 : decide (L.length ≤ p) = false := decide_eq_false hp
    have hpl : p < L.length := by omega
    obtain ⟨ad, rfl, k0, k1, k2⟩ := at_T29 H.out.row (p : Int) (by omega) (by omega)
    replace k0 := (H.out.below.cell (World.block_lt_of_cell? w0 _ k0)).trans k0
    replace k1 := (H.out.below.cell (World.block_lt_of_cell? w0 _ k1)).trans k1
    replace k2 := (H.out.below.cell (World.block_lt_of_cell? w0 _ k2)).trans k2
    rw [tk_at hpl] at k0 k1 k2
    have e3 : ((p : Int)).toNat * 3 = p * 3 := by rw [Int.toNat_natCast]
    rw [e3] at k0 k1 k2
    generalize tk L p = t at *
    have f0 : ∀ o, (w.alloc o).cell? (ad.add (p * 3)) = some (.int .i64 t.f0) := fun o => ((below_alloc (Below.refl _ _) o).cell (World.block_lt_of_cell? w _ k0)).trans k0
    have f1 : ∀ o, (w.alloc o).cell? ⟨(ad.add (p * 3)).block, (ad.add (p * 3)).off + 1, none⟩ = some (.string t.f1) := fun o => ((below_alloc (Below.refl _ _) o).cell (World.block_lt_of_cell? w _ k1)).trans k1
    have f2 : ∀ o, (w.alloc o).cell? ⟨(ad.add (p * 3)).block, (ad.add (p * 3)).off + 2, none⟩ = some (.int .u64 t.f2) := fun o => ((below_alloc (Below.refl _ _) o).cell (World.block_lt_of_cell? w _ k2)).trans k2
    go_enter Tryd.func24, Tryd.ntmps24
    go_wp2
    go_quiet (fail)
    go_wp2
    go_region
    go_wp2
    refine bodyPost_ret (results_cell_row rfl _ _ w.heap.size 29 #[.int .i64 t.f0, .string t.f1, .int .u64 t.f2] (0, 0) _ rfl (tok_box w _ t.f0 t.f1 t.f2) Tryd.underlying29 rfl (by kernel_rfl)) rfl ?_
    exact ⟨rfl, tok_below w _ _ _ _⟩

/-! ### operand_reader_wrong: function 18 -/
def wrE (e E : Int) : Option Int := if e = 3 then none else some (if E = 0 then e else E)
theorem rd_cells {w0 w : World} {g : Nat} {A : Option Addr} {c : Nat} {L : List S29} {p : Nat} {E : Int} (h : Rd w0 w g A c L p E) : w.cell? ⟨g, 0, none⟩ = some (.slice A L.length c) ∧ w.cell? ⟨g, 1, none⟩ = some (.int .i64 (p : Int)) ∧ w.cell? ⟨g, 2, none⟩ = some (.int .i64 E) ∧ w.frozen? ⟨g, 1, none⟩ = false ∧ w.frozen? ⟨g, 2, none⟩ = false :=
  ⟨(blk_cell h.blk 0).trans rfl, (blk_cell h.blk 1).trans rfl, (blk_cell h.blk 2).trans rfl, blk_frozen h.blk 1, blk_frozen h.blk 2⟩
theorem Rd.setE {w0 w : World} {g : Nat} {A : Option Addr} {c : Nat} {L : List S29} {p : Nat} {E : Int} (h : Rd w0 w g A c L p E) (E' : Int) : Rd w0 (w.setCell ⟨g, 2, none⟩ (.int .i64 E')) g A c L p E' :=
  ⟨blk_put h.blk 2 _ rfl, h.row, h.cap, h.ge, h.below.setCell (p := ⟨g, 2, none⟩) h.ge _, h.len⟩
theorem Rd.setP {w0 w : World} {g : Nat} {A : Option Addr} {c : Nat} {L : List S29} {p : Nat} {E : Int} (h : Rd w0 w g A c L p E) (q : Nat) : Rd w0 (w.setCell ⟨g, 1, none⟩ (.int .i64 (q : Int))) g A c L q E :=
  ⟨blk_put h.blk 1 _ rfl, h.row, h.cap, h.ge, h.below.setCell (p := ⟨g, 1, none⟩) h.ge _, h.len⟩
set_option maxHeartbeats 4000000 in
set_option maxRecDepth 100000 in
theorem rd_wrong (w0 w : World) (g : Nat) (A : Option Addr) (c : Nat) (L : List S29) (p : Nat) (E e : Int) (H : Aside0 (Rd w0 w g A c L p E)) :
    Calls Tryd.prog 18 #[.pointer (some ⟨g, 0, none⟩), .int .i64 e] w fun en w' => match wrE e E with
      | none => pnc en ∧ w' = w
      | some E' => en = .returned (.tuple #[]) ∧ Rd w0 w' g A c L p E' ∧ KeepBut w w' g none := by
  obtain ⟨h0, h1, h2, f1, f2⟩ := rd_cells H.out
  by_cases h3 : e = 3
  · have c1 : (e == 3) = true := beq_iff_eq.2 h3
    rw [show wrE e E = none by unfold wrE; rw [if_pos h3]]
    clear h3
    go_enter Tryd.func18, Tryd.ntmps18
    go_wp2
    exact ⟨rfl, ⟨_, _, rfl⟩, rfl⟩
  · have c1 : (e == 3) = false := beq_eq_false_iff_ne.2 h3
    rw [show wrE e E = some (if E = 0 then e else E) by unfold wrE; rw [if_neg h3]]
    clear h3
    by_cases hE : E = 0
    · have c2 : (E == 0) = true := beq_iff_eq.2 hE
      rw [if_pos hE]
      go_enter Tryd.func18, Tryd.ntmps18
      go_wp2
      go_end0
      exact ⟨rfl, H.out.setE e, (KeepBut.refl _ _ _).set_ 2 _⟩
    · have c2 : (E == 0) = false := beq_eq_false_iff_ne.2 hE
      rw [if_neg hE]
      clear hE
      go_enter Tryd.func18, Tryd.ntmps18
      go_wp2
      go_end0
      exact ⟨rfl, H.out, KeepBut.refl _ _ _⟩

/-! ### operand_reader_sign: function 26 -/
def sgB (L : List S29) (p : Nat) (s : ByteArray) : Bool := (tk L p).f0 == 4 && (tk L p).f1.toList == s.toList
theorem sgB_lt {L : List S29} {p : Nat} {s : ByteArray} (h : sgB L p s = true) : p < L.length := by
  rcases Nat.lt_or_ge p L.length with h1 | h1
  · exact h1
  · unfold sgB at h
    rw [tk_end h1] at h
    cases h
theorem rd_len {w0 w : World} {g : Nat} {A : Option Addr} {c : Nat} {L : List S29} {p : Nat} {E : Int} (h : Rd w0 w g A c L p E) : L.length ≤ 9223372036854775807 := Kd.C_max h.row
theorem keep_alloc {w w1 : World} {g : Nat} (h : KeepBut w w1 g none) (o : Obj) : KeepBut w (w1.alloc o) g none := h.trans (KeepBut.of_below (below_alloc (Below.refl _ _) o) g none) (Or.inl rfl)
set_option maxHeartbeats 4000000 in
set_option maxRecDepth 100000 in
theorem rd_sign (w0 w : World) (g : Nat) (A : Option Addr) (c : Nat) (L : List S29) (p : Nat) (E : Int) (s : ByteArray) (H : Aside0 (Rd w0 w g A c L p E)) :
    Calls Tryd.prog 26 #[.pointer (some ⟨g, 0, none⟩), .string s] w fun en w' => en = .returned (.bool (sgB L p s)) ∧ Rd w0 w' g A c L (if sgB L p s = true then p + 1 else p) E ∧ KeepBut w w' g none := by
  have hz29 := Tryd.zeroValue29
  have key : (sgB L p s = false ∧ (((tk L p).f0 != 4) = true ∨ (((tk L p).f0 != 4) = false ∧ ((tk L p).f1.toList == s.toList) = false))) ∨ (sgB L p s = true ∧ ((tk L p).f0 != 4) = false ∧ ((tk L p).f1.toList == s.toList) = true) := by
    unfold sgB
    cases h1 : (tk L p).f0 == 4
    · exact Or.inl ⟨rfl, Or.inl (by rw [bne, h1]; rfl)⟩
    · cases h2 : (tk L p).f1.toList == s.toList
      · exact Or.inl ⟨rfl, Or.inr ⟨by rw [bne, h1]; rfl, rfl⟩⟩
      · exact Or.inr ⟨rfl, by rw [bne, h1]; rfl, rfl⟩
  have HP := Aside0.mk (rd_peek w0 w g A c L p E H)
  rcases key with ⟨hs, hc⟩ | ⟨hs, c1, c2⟩
  · rw [hs, if_neg (by decide)]
    clear hs
    generalize tk L p = t at *
    rcases hc with c1 | ⟨c1, c2⟩
    all_goals
      go_enter Tryd.func26, Tryd.ntmps26
      go_wp2_with (fail)
      refine HP.out.mono ?_
      rintro e w1 ⟨rfl, hb⟩
      have H1 := Aside0.mk (H.out.after hb)
      have K1 := Aside0.mk (KeepBut.of_below hb g none)
      clear hb HP
      go_wp2
      go_ret
      exact ⟨rfl, H1.out.after (below_alloc (Below.refl _ _) _), keep_alloc K1.out _⟩
  · have hlt := sgB_lt hs
    rw [hs, if_pos rfl]
    have hw : wrap64 ((p : Int) + 1) = ((p + 1 : Nat) : Int) := by have := H.out.len; unfold wrap64; omega
    clear hs
    generalize tk L p = t at *
    go_enter Tryd.func26, Tryd.ntmps26
    go_wp2_with (fail)
    refine HP.out.mono ?_
    rintro e w1 ⟨rfl, hb⟩
    have H1 := Aside0.mk (H.out.after hb)
    have K1 := Aside0.mk (KeepBut.of_below hb g none)
    have H2 : Aside0 (∀ o, Rd w0 (w1.alloc o) g A c L p E) := ⟨fun o => H1.out.after (below_alloc (Below.refl _ _) o)⟩
    have h1 : ∀ o, (w1.alloc o).cell? ⟨g, 1, none⟩ = some (.int .i64 (p : Int)) := fun o => (rd_cells (H2.out o)).2.1
    have f1 : ∀ o, (w1.alloc o).frozen? ⟨g, 1, none⟩ = false := fun o => (rd_cells (H2.out o)).2.2.2.1
    clear hb HP
    go_wp2
    go_ret
    exact ⟨rfl, (H2.out _).setP (p + 1), (keep_alloc K1.out _).set_ 1 _⟩

/-! ### operand_reader_need: function 17 -/
/-- What a reader's call leaves: it has panicked, or here is its answer, and where the reader stands. -/
def RdPost {α : Type} (w0 w : World) (g : Nat) (A : Option Addr) (c : Nat) (L : List S29) (res : Option (α × Nat × Int)) (val : α → Value) (en : Ending) (w' : World) : Prop :=
  KeepBut w w' g none ∧ match res with
    | none => pnc en ∧ Below w0.heap.size w0 w'
    | some (a, q, E') => en = .returned (val a) ∧ Rd w0 w' g A c L q E'
set_option maxHeartbeats 4000000 in
set_option maxRecDepth 100000 in
theorem rd_need (w0 w : World) (g : Nat) (A : Option Addr) (c : Nat) (L : List S29) (p : Nat) (E : Int) (s : ByteArray) (H : Aside0 (Rd w0 w g A c L p E)) :
    Calls Tryd.prog 17 #[.pointer (some ⟨g, 0, none⟩), .string s] w (RdPost w0 w g A c L (if sgB L p s = true then some ((), p + 1, E) else none) (fun _ => .tuple #[])) := by
  have HS := Aside0.mk (rd_sign w0 w g A c L p E s H)
  cases hs : sgB L p s
  · rw [hs, if_neg (by decide)] at HS
    rw [if_neg (by decide)]
    clear hs
    go_enter Tryd.func17, Tryd.ntmps17
    go_wp2_with (fail)
    refine HS.out.mono ?_
    rintro e w1 ⟨rfl, h1, k1⟩
    have H1 := Aside0.mk h1
    have K1 := Aside0.mk k1
    clear h1 k1 HS
    go_wp2_with (fail)
    refine (rd_wrong w0 _ g A c L p E 3 H1).mono ?_
    rintro e w2 ⟨⟨t, v, rfl⟩, rfl⟩
    go_wp2
    exact ⟨rfl, K1.out, ⟨_, _, rfl⟩, H1.out.below⟩
  · rw [hs, if_pos rfl] at HS
    rw [if_pos rfl]
    clear hs
    go_enter Tryd.func17, Tryd.ntmps17
    go_wp2_with (fail)
    refine HS.out.mono ?_
    rintro e w1 ⟨rfl, h1, k1⟩
    go_wp2
    go_end0
    exact ⟨k1, rfl, h1⟩

/-! ### num_digit: function 36 -/
mutual
def num_digit.j0 : Nat → Int → Int → Bool → Option (Int × Bool)
 | 0, _, _, _ => none
 | k + 1, x0, x1, x7 => if x7 = true then (some (IntKind.u64.wrap (wrap32 (x0 - 48)), decide ((IntKind.u64.wrap (wrap32 (x0 - 48))) < x1))) else (if x0 ≥ 97 then (num_digit.j1 k x0 x1 (decide (x0 ≤ 102))) else (num_digit.j1 k x0 x1 false))
def num_digit.j1 : Nat → Int → Int → Bool → Option (Int × Bool)
 | 0, _, _, _ => none
 | k + 1, x0, x1, x17 => if x17 = true then (some (IntKind.u64.wrap ((IntKind.u64.wrap (wrap32 (x0 - 97))) + 10), decide ((IntKind.u64.wrap ((IntKind.u64.wrap (wrap32 (x0 - 97))) + 10)) < x1))) else (if x0 ≥ 65 then (if x0 ≤ 70 then (some (IntKind.u64.wrap ((IntKind.u64.wrap (wrap32 (x0 - 65))) + 10), decide ((IntKind.u64.wrap ((IntKind.u64.wrap (wrap32 (x0 - 65))) + 10)) < x1))) else (some (0, false))) else (some (0, false)))
end
def num_digit.f (k : Nat) (a0 : Int) (a1 : Int) : Option (Int × Bool) := if a0 ≥ 48 then (num_digit.j0 k a0 a1 (decide (a0 ≤ 57))) else (num_digit.j0 k a0 a1 false)
theorem num_digit.mono_l : ∀ k, (∀ y0 y1 y2, LeO (num_digit.j0 k y0 y1 y2) (num_digit.j0 (k + 1) y0 y1 y2)) ∧ (∀ y0 y1 y2, LeO (num_digit.j1 k y0 y1 y2) (num_digit.j1 (k + 1) y0 y1 y2))
 | 0 => ⟨fun _ _ _ r h => by simp [num_digit.j0] at h, fun _ _ _ r h => by simp [num_digit.j1] at h⟩
 | k + 1 => by
  obtain ⟨ih0, ih1⟩ := num_digit.mono_l k
  refine ⟨?_, ?_⟩
  ·intro y0 y1 y2
   unfold num_digit.j0
   repeat' first
   | (with_reducible exact ih0 _ _ _)
   | (with_reducible exact ih1 _ _ _)
   | (with_reducible exact LeO.refl _)
   | (with_reducible exact LeO.none _)
   | (with_reducible refine LeO.ite ?_ ?_)
   | (with_reducible refine LeO.bind ?_ (fun _ => ?_))
   | exact ih0 _ _ _
   | exact ih1 _ _ _
   | exact LeO.none _
   | refine LeO.ite ?_ ?_
   | refine LeO.bind ?_ (fun _ => ?_)
  ·intro y0 y1 y2
   unfold num_digit.j1
   repeat' first
   | (with_reducible exact ih0 _ _ _)
   | (with_reducible exact ih1 _ _ _)
   | (with_reducible exact LeO.refl _)
   | (with_reducible exact LeO.none _)
   | (with_reducible refine LeO.ite ?_ ?_)
   | (with_reducible refine LeO.bind ?_ (fun _ => ?_))
   | exact ih0 _ _ _
   | exact ih1 _ _ _
   | exact LeO.none _
   | refine LeO.ite ?_ ?_
   | refine LeO.bind ?_ (fun _ => ?_)
theorem num_digit.mono : ∀ a0 a1 k, LeO (num_digit.f k a0 a1) (num_digit.f (k + 1) a0 a1) := by
 intro a0 a1 k
 obtain ⟨ih0, ih1⟩ := num_digit.mono_l k
 unfold num_digit.f
 repeat' first
   | (with_reducible exact ih0 _ _ _)
   | (with_reducible exact ih1 _ _ _)
   | (with_reducible exact LeO.refl _)
   | (with_reducible exact LeO.none _)
   | (with_reducible refine LeO.ite ?_ ?_)
   | (with_reducible refine LeO.bind ?_ (fun _ => ?_))
   | exact ih0 _ _ _
   | exact ih1 _ _ _
   | exact LeO.none _
   | refine LeO.ite ?_ ?_
   | refine LeO.bind ?_ (fun _ => ?_)
set_option maxHeartbeats 8000000 in
set_option maxRecDepth 100000 in
theorem num_digit.calls (k : Nat) (a0 : Int) (a1 : Int) (r1 : Int) (r2 : Bool) (w : World) (h : num_digit.f k a0 a1 = some (r1, r2)) :
  Calls Tryd.prog 36 #[.int .i32 a0, .int .u64 a1] w fun e w' => e = .returned (.tuple #[.int .u64 r1, .bool r2]) ∧ Drawn0 w w' := by
 have H : (if a0 ≥ 48 then (num_digit.j0 k a0 a1 (decide (a0 ≤ 57))) else (num_digit.j0 k a0 a1 false)) = some (r1, r2) := h
 clear h
 have HC3 := Aside0.mk H
 clear H
 go_enter Tryd.func36, Tryd.ntmps36
 go_upto_region 3 with (fail)
 go_cut [7] (fun v7 wc => ∃ (kq : Nat) (x7_2 : Bool), v7 = .bool x7_2 ∧ Aside0 (num_digit.j0 kq a0 a1 x7_2 = some (r1, r2)) ∧ Aside0 (kq ≤ k) ∧ Drawn0 w wc)
 case first =>
  have H := HC3.out
  clear HC3
  by_cases c4 : a0 ≥ 48
  ·rw [if_pos c4] at H
   have c4b0 : decide (48 ≤ a0) = true := decide_eq_true c4
   clear c4
   (first | rw [c4b0] | (simp only [i64_w, i32_w]; rw [c4b0]) | skip)
   have H' := Aside0.mk H
   clear H
   go_wp2
   go_meet
   case rel => exact ⟨_, (decide (a0 ≤ 57)), (by first | rfl | (simp; done) | (simp [*]; done)), H', ⟨by first | omega | exact Nat.le_refl _⟩, by repeat (first | exact Drawn0.refl _ | apply Drawn0.step)⟩
  ·rw [if_neg c4] at H
   have c4b0 : decide (48 ≤ a0) = false := decide_eq_false c4
   clear c4
   (first | rw [c4b0] | (simp only [i64_w, i32_w]; rw [c4b0]) | skip)
   have H' := Aside0.mk H
   clear H
   go_wp2
   go_meet
   case rel => exact ⟨_, (false), (by first | rfl | (simp; done) | (simp [*]; done)), H', ⟨by first | omega | exact Nat.le_refl _⟩, by repeat (first | exact Drawn0.refl _ | apply Drawn0.step)⟩
 case rest =>
  clear HC3
  try clear p2
  try clear c3
  try clear c4
  try clear c4b0
  obtain ⟨kq, x7_2, rfl, HA, HJ2, ⟨mc2, rfl⟩⟩ := hcut
  cases kq with
  | zero => exact absurd HA.out (by simp [num_digit.j0])
  | succ kj2 =>
   have H := HA.out
   clear HA
   simp only [num_digit.j0] at H
   by_cases c5 : x7_2 = true
   ·subst c5
    rw [if_pos rfl] at H
    simp only [Option.some.injEq, Prod.mk.injEq] at H
    obtain ⟨rfl, rfl⟩ := H
    go_wp2
    go_ret2
    exact ⟨by first | rfl | (simp; done) | (simp [*]; done), by repeat (first | exact Drawn0.refl _ | apply Drawn0.step)⟩
   ·replace c5 := Bool.eq_false_iff.mpr c5
    subst c5
    rw [if_neg (show ¬ (false = true) by decide)] at H
    have HC6 := Aside0.mk H
    clear H
    go_upto_region 5 with (fail)
    go_cut [17] (fun v17 wc => ∃ (kq : Nat) (x17_5 : Bool), v17 = .bool x17_5 ∧ Aside0 (num_digit.j1 kq a0 a1 x17_5 = some (r1, r2)) ∧ Aside0 (kq ≤ kj2) ∧ Drawn0 w wc)
    case first =>
     have H := HC6.out
     clear HC6
     by_cases c7 : a0 ≥ 97
     ·rw [if_pos c7] at H
      have c7b0 : decide (97 ≤ a0) = true := decide_eq_true c7
      clear c7
      (first | rw [c7b0] | (simp only [i64_w, i32_w]; rw [c7b0]) | skip)
      have H' := Aside0.mk H
      clear H
      go_wp2
      go_meet
      case rel => exact ⟨_, (decide (a0 ≤ 102)), (by first | rfl | (simp; done) | (simp [*]; done)), H', ⟨by have := HJ2.out; first | omega | exact Nat.le_refl _⟩, by repeat (first | exact Drawn0.refl _ | apply Drawn0.step)⟩
     ·rw [if_neg c7] at H
      have c7b0 : decide (97 ≤ a0) = false := decide_eq_false c7
      clear c7
      (first | rw [c7b0] | (simp only [i64_w, i32_w]; rw [c7b0]) | skip)
      have H' := Aside0.mk H
      clear H
      go_wp2
      go_meet
      case rel => exact ⟨_, (false), (by first | rfl | (simp; done) | (simp [*]; done)), H', ⟨by have := HJ2.out; first | omega | exact Nat.le_refl _⟩, by repeat (first | exact Drawn0.refl _ | apply Drawn0.step)⟩
    case rest =>
     clear HC6
     try clear c2
     try clear p2
     try clear c3
     try clear p3
     try clear c4
     try clear c4b0
     try clear c5
     try clear c7
     try clear c7b0
     try clear p2
     obtain ⟨kq, x17_5, rfl, HA, HJ5, ⟨mc5, rfl⟩⟩ := hcut
     cases kq with
     | zero => exact absurd HA.out (by simp [num_digit.j1])
     | succ kj5 =>
      have H := HA.out
      clear HA
      simp only [num_digit.j1] at H
      by_cases c8 : x17_5 = true
      ·subst c8
       rw [if_pos rfl] at H
       simp only [Option.some.injEq, Prod.mk.injEq] at H
       obtain ⟨rfl, rfl⟩ := H
       go_wp2
       go_ret2
       exact ⟨by first | rfl | (simp; done) | (simp [*]; done), by repeat (first | exact Drawn0.refl _ | apply Drawn0.step)⟩
      ·replace c8 := Bool.eq_false_iff.mpr c8
       subst c8
       rw [if_neg (show ¬ (false = true) by decide)] at H
       by_cases c9 : a0 ≥ 65
       ·rw [if_pos c9] at H
        have c9b0 : decide (65 ≤ a0) = true := decide_eq_true c9
        clear c9
        by_cases c10 : a0 ≤ 70
        ·rw [if_pos c10] at H
         have c10b0 : decide (a0 ≤ 70) = true := decide_eq_true c10
         clear c10
         simp only [Option.some.injEq, Prod.mk.injEq] at H
         obtain ⟨rfl, rfl⟩ := H
         go_wp2
         go_ret2
         exact ⟨by first | rfl | (simp; done) | (simp [*]; done), by repeat (first | exact Drawn0.refl _ | apply Drawn0.step)⟩
        ·rw [if_neg c10] at H
         have c10b0 : decide (a0 ≤ 70) = false := decide_eq_false c10
         clear c10
         simp only [Option.some.injEq, Prod.mk.injEq] at H
         obtain ⟨rfl, rfl⟩ := H
         go_wp2
         go_ret2
         exact ⟨by first | rfl | (simp; done) | (simp [*]; done), by repeat (first | exact Drawn0.refl _ | apply Drawn0.step)⟩
       ·rw [if_neg c9] at H
        have c9b0 : decide (65 ≤ a0) = false := decide_eq_false c9
        clear c9
        simp only [Option.some.injEq, Prod.mk.injEq] at H
        obtain ⟨rfl, rfl⟩ := H
        go_wp2
        go_ret2
        exact ⟨by first | rfl | (simp; done) | (simp [*]; done), by repeat (first | exact Drawn0.refl _ | apply Drawn0.step)⟩

/-! ### num_digits: function 35 -/
def dgI (r : Int) : Int := if 48 ≤ r ∧ r ≤ 57 then r - 48 else if 97 ≤ r ∧ r ≤ 102 then r - 87 else if 65 ≤ r ∧ r ≤ 70 then r - 55 else -1
def dgP (base r : Int) : Int × Bool := if dgI r = -1 then (0, false) else (dgI r, decide (dgI r < base))
theorem digit_lo : ∀ n : Nat, n < 128 → num_digit.f 3 (n : Int) 10 = some (dgP 10 n) ∧ num_digit.f 3 (n : Int) 16 = some (dgP 16 n) := by decide +kernel
theorem dgI_hi (r : Int) (h : 128 ≤ r) : dgI r = -1 := by
  unfold dgI
  rw [if_neg (by omega), if_neg (by omega), if_neg (by omega)]
theorem digit_hi (r base : Int) (h : 128 ≤ r) : num_digit.f 3 r base = some (0, false) := by
  unfold num_digit.f
  rw [if_pos (by omega), decide_eq_false (by omega)]
  simp only [num_digit.j0, if_neg (show ¬ (false = true) by decide)]
  rw [if_pos (by omega), decide_eq_false (by omega)]
  simp only [num_digit.j1, if_neg (show ¬ (false = true) by decide)]
  rw [if_pos (by omega), if_neg (by omega)]
theorem digit_f (r base : Int) (h : 0 ≤ r) (hb : base = 10 ∨ base = 16) : num_digit.f 3 r base = some (dgP base r) := by
  by_cases h1 : r < 128
  · obtain ⟨n, rfl⟩ := Int.eq_ofNat_of_zero_le h
    rcases hb with rfl | rfl
    · exact (digit_lo n (by omega)).1
    · exact (digit_lo n (by omega)).2
  · rw [digit_hi r base (by omega)]
    unfold dgP
    rw [dgI_hi r (by omega), if_pos rfl]
def dgB (base : Int) (c : UInt8) : Bool := (dgP base c.toNat).2
def okB (s : ByteArray) (base : Int) : Bool := s.data.toList.all (dgB base) && !s.data.toList.isEmpty
def num_digits.f (a0 : ByteArray) (a1 : Int) : Option Bool := if a1 = 10 ∨ a1 = 16 then some (okB a0 a1) else none
theorem take_next_byte (s : ByteArray) (k : Nat) (h : k < s.size) : s.data.toList.take (k + 1) = s.data.toList.take k ++ [s[k]'h] := by
  rw [List.take_succ_eq_append_getElem (by simpa using h)]; rfl
theorem okB_no {s : ByteArray} {base : Int} {k : Nat} (h : k < s.size) (hd : dgB base (s[k]'h) = false) : okB s base = false := by
  unfold okB
  rw [Bool.and_eq_false_iff]
  refine Or.inl ?_
  rw [List.all_eq_false]
  exact ⟨s[k]'h, List.getElem_mem (by simpa using h), by rw [hd]; decide⟩
theorem dgP_cases (base r : Int) : ∃ v b, dgP base r = (v, b) := ⟨_, _, rfl⟩
set_option maxHeartbeats 2000000 in
set_option maxRecDepth 100000 in
theorem num_digits.calls (a0 : ByteArray) (a1 : Int) (r : Bool) (w : World) (h : num_digits.f a0 a1 = some r) :
    Calls Tryd.prog 35 #[.string a0, .int .u64 a1] w fun e w' => e = .returned (.bool r) ∧ Below w.heap.size w w' := by
  unfold num_digits.f at h
  by_cases hb : a1 = 10 ∨ a1 = 16
  · rw [if_pos hb] at h
    have hr := Option.some.inj h
    have HR := Aside0.mk hr
    have HB := Aside0.mk hb
    clear h hr hb
    go_enter Tryd.func35, Tryd.ntmps35
    go_wp2
    go_loopw [6] (fun _ wr => ∃ pos : Nat, pos ≤ a0.size ∧ Aside0 (wr.heap[w.heap.size]? = some (.stringIter a0 pos)) ∧ Aside0 (Below w.heap.size w wr) ∧ Aside0 ((a0.data.toList.take pos).all (dgB a1) = true)) (fun _ wr => a0.size - wr.iterPos w.heap.size)
    case atStart => exact ⟨0, Nat.zero_le _, ⟨World.iter_heap w a0 0⟩, ⟨below_alloc (Below.refl _ _) _⟩, ⟨by simp⟩⟩
    case round =>
      obtain ⟨pos, hle, HI, HW, HA⟩ := hrel
      by_cases hp : pos < a0.size
      · have HD := Aside0.mk (digit_f (Utf8.decode a0 pos).1 a1 (by omega) HB.out)
        have hnx : ∀ ty, (Instr.next (.pointer (some ⟨w.heap.size, 0, none⟩)) true ty).run Tryd.prog wr = _ := fun ty => Go.Lib.run_next_any_at wr w.heap.size a0 pos ty HI.out hp
        have HI2 := Aside0.mk (Go.Lib.iterAt_heap wr w.heap.size a0 pos (pos + (Utf8.decode a0 pos).2) HI.out)
        have HW2 := Aside0.mk (Go.Lib.below_iterAt HW.out (Nat.le_refl _) a0 (pos + (Utf8.decode a0 pos).2))
        obtain ⟨v, b, hvb⟩ := dgP_cases a1 (Utf8.decode a0 pos).1
        have HVB := Aside0.mk hvb
        rw [hvb] at HD
        have HIP : Aside0 (wr.iterPos w.heap.size = pos) := ⟨by unfold World.iterPos; rw [HI.out]⟩
        have HP := Aside0.mk hp
        have HG : Aside0 (b = dgB a1 (a0[pos]'hp) ∧ (b = true → (Utf8.decode a0 pos).2 = 1)) := ⟨by
          by_cases ha : (a0[pos]'hp).toNat < 128
          · rw [decode_ascii a0 pos hp ha] at hvb ⊢
            refine ⟨?_, fun _ => rfl⟩
            unfold dgB
            rw [hvb]
          · have h2 := (decode_high a0 pos hp (by omega)).1
            have h3 : dgP a1 ((Utf8.decode a0 pos).1 : Int) = (0, false) := by
              unfold dgP
              rw [dgI_hi _ (by omega), if_pos rfl]
            have h4 : dgB a1 (a0[pos]'hp) = false := by
              unfold dgB dgP
              rw [dgI_hi _ (by omega), if_pos rfl]
            rw [h3] at hvb
            cases hvb
            exact ⟨h4.symm, fun e => by cases e⟩⟩
        have HNO : Aside0 (dgB a1 (a0[pos]'hp) = false → okB a0 a1 = false) := ⟨fun e => okB_no hp e⟩
        have HTK := Aside0.mk (take_next_byte a0 pos hp)
        generalize a0[pos]'hp = by_ at *
        clear hvb hle HI HW hp
        generalize (Utf8.decode a0 pos).1 = c at *
        generalize hq : pos + (Utf8.decode a0 pos).2 = q at *
        have HQ := Aside0.mk hq
        clear hq
        generalize hwx : wr.iterAt w.heap.size a0 q = wx at *
        clear hwx
        cases b
        · go_wp2_with (fail)
          refine (num_digit.calls 3 c a1 v false _ HD.out).mono ?_
          rintro e w' ⟨rfl, ⟨nd, rfl⟩⟩
          go_wp2
          go_ret
          exact ⟨by rw [← HR.out, HNO.out HG.out.1.symm]; rfl, pw_below_drewN HW2.out _⟩
        · go_wp2_with (fail)
          refine (num_digit.calls 3 c a1 v true _ HD.out).mono ?_
          rintro e w' ⟨rfl, hd⟩
          have HI3 := Aside0.mk (blk_below HI2.out hd.below)
          have HW3 := Aside0.mk (HW2.out.trans (hd.below.mono HW2.out.size))
          clear HI2 HW2 hd
          go_wp2
          have hp := HP.out
          have hq : q = pos + 1 := by rw [← HQ.out, HG.out.2 (by trivial)]
          subst hq
          go_roundw
          case rel => exact ⟨pos + 1, by omega, HI3, HW3, ⟨by rw [HTK.out, List.all_append, HA.out, Bool.true_and, List.all_cons, ← HG.out.1]; rfl⟩⟩
          case measure =>
            have e1 := HI3.out
            have e2 := HIP.out
            unfold World.iterPos at *
            rw [e1]
            simp only [] at *
            omega
      · have hnx : ∀ ty, (Instr.next (.pointer (some ⟨w.heap.size, 0, none⟩)) true ty).run Tryd.prog wr = _ := fun ty => Go.Lib.run_next_end_at wr w.heap.size a0 pos ty HI.out hp
        have HOK : Aside0 (okB a0 a1 = !a0.data.toList.isEmpty) := ⟨by
          have := HA.out
          rw [List.take_of_length_le (by simp; omega)] at this
          unfold okB
          rw [this, Bool.true_and]⟩
        clear HA HI hle hp
        cases he : a0.data.toList.isEmpty
        · have c1 : (a0.toList == ([] : List UInt8)) = false := by
            rw [ByteArray.toList_eq]
            cases hx : a0.data.toList
            · rw [hx] at he; cases he
            · rfl
          have c2 : (a0.toList != ([] : List UInt8)) = true := by rw [bne, c1]; rfl
          go_wp2
          go_ret
          exact ⟨by rw [← HR.out, HOK.out, he]; rfl, HW.out⟩
        · have c1 : (a0.toList == ([] : List UInt8)) = true := by
            rw [ByteArray.toList_eq]
            cases hx : a0.data.toList
            · rfl
            · rw [hx] at he; cases he
          have c2 : (a0.toList != ([] : List UInt8)) = false := by rw [bne, c1]; rfl
          go_wp2
          go_ret
          exact ⟨by rw [← HR.out, HOK.out, he]; rfl, HW.out⟩
  · rw [if_neg hb] at h
    cases h

/-! ### bits_Mul64: function 37 -/
def bits_Mul64.f (a0 : Int) (a1 : Int) : Option (Int × Int) := some (IntKind.u64.wrap ((IntKind.u64.wrap ((IntKind.u64.wrap ((a0 / 4294967296) * (a1 / 4294967296))) + ((IntKind.u64.wrap ((IntKind.u64.wrap ((a0 / 4294967296) * (Go.bits .and .u64 a1 4294967295))) + ((IntKind.u64.wrap ((Go.bits .and .u64 a0 4294967295) * (Go.bits .and .u64 a1 4294967295))) / 4294967296))) / 4294967296))) + ((IntKind.u64.wrap ((Go.bits .and .u64 (IntKind.u64.wrap ((IntKind.u64.wrap ((a0 / 4294967296) * (Go.bits .and .u64 a1 4294967295))) + ((IntKind.u64.wrap ((Go.bits .and .u64 a0 4294967295) * (Go.bits .and .u64 a1 4294967295))) / 4294967296))) 4294967295) + (IntKind.u64.wrap ((Go.bits .and .u64 a0 4294967295) * (a1 / 4294967296))))) / 4294967296)), IntKind.u64.wrap (a0 * a1))
set_option maxHeartbeats 8000000 in
set_option maxRecDepth 100000 in
theorem bits_Mul64.calls (a0 : Int) (a1 : Int) (r1 : Int) (r2 : Int) (w : World) (h : bits_Mul64.f a0 a1 = some (r1, r2)) :
  Calls Tryd.prog 37 #[.int .u64 a0, .int .u64 a1] w fun e w' => e = .returned (.tuple #[.int .u64 r1, .int .u64 r2]) ∧ Drawn0 w w' := by
 have H : (some (IntKind.u64.wrap ((IntKind.u64.wrap ((IntKind.u64.wrap ((a0 / 4294967296) * (a1 / 4294967296))) + ((IntKind.u64.wrap ((IntKind.u64.wrap ((a0 / 4294967296) * (Go.bits .and .u64 a1 4294967295))) + ((IntKind.u64.wrap ((Go.bits .and .u64 a0 4294967295) * (Go.bits .and .u64 a1 4294967295))) / 4294967296))) / 4294967296))) + ((IntKind.u64.wrap ((Go.bits .and .u64 (IntKind.u64.wrap ((IntKind.u64.wrap ((a0 / 4294967296) * (Go.bits .and .u64 a1 4294967295))) + ((IntKind.u64.wrap ((Go.bits .and .u64 a0 4294967295) * (Go.bits .and .u64 a1 4294967295))) / 4294967296))) 4294967295) + (IntKind.u64.wrap ((Go.bits .and .u64 a0 4294967295) * (a1 / 4294967296))))) / 4294967296)), IntKind.u64.wrap (a0 * a1))) = some (r1, r2) := h
 clear h
 simp only [Option.some.injEq, Prod.mk.injEq] at H
 obtain ⟨rfl, rfl⟩ := H
 go_enter Tryd.func37, Tryd.ntmps37
 go_wp2
 go_ret2
 exact ⟨by first | rfl | (simp; done) | (simp [*]; done), by repeat (first | exact Drawn0.refl _ | apply Drawn0.step)⟩

-- NOT PRINTED: function 38 (bits_Add64)

end Go.Proofs.YtpndeninbokjoaaDoor.P
