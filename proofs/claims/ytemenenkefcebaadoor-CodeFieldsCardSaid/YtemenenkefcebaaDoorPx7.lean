-- printed by wip/tools/myprint.py out of the translation. Not trusted: Lean checks it.
import Derived.Test.YtemenenkefcebaaDoorPx0
import Derived.Test.YtemenenkefcebaaDoorPx1
import Derived.Test.YtemenenkefcebaaDoorPx2
import Derived.Test.YtemenenkefcebaaDoorPx3
import Derived.Test.YtemenenkefcebaaDoorPx4
import Derived.Test.YtemenenkefcebaaDoorPx5
import Derived.Test.YtemenenkefcebaaDoorPx6
namespace Go.Proofs.YtemenenkefcebaaDoor.P
open Go.RowKit Go.Proofs.YtemenenkefcebaaDoorW.PrintWords Go.Proofs.YtemenenkefcebaaDoorW.PrintLast Go.Proofs.YtemenenkefcebaaDoorW.PrintMore
attribute [local go_sem] max2_int min2_int max_two min_two max_three min_three max_four min_four   -- for this text's walks alone
set_option linter.unusedVariables false
set_option linter.unusedSimpArgs false

attribute [local go_sem high] eqA71
/-! ### code_Encode: function 8 -/
def code_Encode.f (k : Nat) (op d n m a im mk sh am cn : Int) : Option (Int × Int) :=
  (inst_Is.f k op d n m a im mk sh am cn).bind fun b => if b = true then (if 1 ≤ op ∧ op ≤ 39 then (code_filled.f k op d n m a im mk sh am cn).bind fun x => some (Go.bits .or .u32 (basesL.getD op.toNat 0) x, 0) else none) else some (0, 1)
theorem fillS.mono (s d n m a im mk sh am cn : Int) (k : Nat) : LeO (fillS k s d n m a im mk sh am cn) (fillS (k + 1) s d n m a im mk sh am cn) := by
  unfold fillS
  repeat' first
    | (with_reducible exact code_word.mono _ _)
    | (with_reducible exact code_packed.mono _ _ _ _)
    | (with_reducible exact mask_Encode.mono _ _)
    | (with_reducible exact bits_Pack.mono _ _ _)
    | (with_reducible exact LeO.refl _)
    | (with_reducible refine LeO.ite ?_ ?_)
    | (with_reducible refine LeO.bind ?_ (fun _ => ?_))
theorem code_filled.mono (op d n m a im mk sh am cn : Int) (k : Nat) : LeO (code_filled.f k op d n m a im mk sh am cn) (code_filled.f (k + 1) op d n m a im mk sh am cn) := by
  unfold code_filled.f
  exact LeO.bind (LeO.refl _) fun _ => fillS.mono _ _ _ _ _ _ _ _ _ _ _
theorem code_Encode.mono (op d n m a im mk sh am cn : Int) (k : Nat) : LeO (code_Encode.f k op d n m a im mk sh am cn) (code_Encode.f (k + 1) op d n m a im mk sh am cn) := by
  unfold code_Encode.f
  exact LeO.bind (inst_Is.mono _ _ _ _ _ _ _ _ _ _ _) fun _ => LeO.ite (LeO.ite (LeO.bind (code_filled.mono _ _ _ _ _ _ _ _ _ _ _) fun _ => LeO.refl _) (LeO.refl _)) (LeO.refl _)
set_option maxHeartbeats 4000000 in
set_option maxRecDepth 100000 in
theorem code_Encode.calls (k : Nat) (op d n m a im mk sh am cn r0 r1 : Int) (w : World) (h : code_Encode.f k op d n m a im mk sh am cn = some (r0, r1)) (HT : Aside0 (Tabs w)) :
    Calls Tryd.prog 8 #[.agg #[.int .i64 op, .int .i64 d, .int .i64 n, .int .i64 m, .int .i64 a, .int .i64 im, .int .u64 mk, .int .i64 sh, .int .i64 am, .int .i64 cn]] w fun e w' => e = .returned (.tuple #[.int .u32 r0, .int .i64 r1]) ∧ Below w.heap.size w w' := by
  obtain ⟨b, hI, h⟩ := Option.bind_eq_some_iff.mp h
  have HI := Aside0.mk hI
  have HBL := Aside0.mk (below_alloc (Below.refl w.heap.size w) (.cells #[.int .i64 op, .int .i64 d, .int .i64 n, .int .i64 m, .int .i64 a, .int .i64 im, .int .u64 mk, .int .i64 sh, .int .i64 am, .int .i64 cn] 24))
  have K0 := Aside0.mk (blk_new w (.cells #[.int .i64 op, .int .i64 d, .int .i64 n, .int .i64 m, .int .i64 a, .int .i64 im, .int .u64 mk, .int .i64 sh, .int .i64 am, .int .i64 cn] 24))
  clear hI
  cases b with
  | false =>
    rw [if_neg (by decide)] at h
    obtain ⟨rfl, rfl⟩ := Prod.mk.inj (Option.some.inj h)
    clear h
    go_enter Tryd.func8, Tryd.ntmps8
    go_wp2_with (fail)
    refine (inst_Is.calls k op d n m a im mk sh am cn false _ HI.out (tabs_of HT HBL.out)).mono ?_
    rintro e w1 ⟨rfl, hb⟩
    have HB := Aside0.mk (HBL.out.trans (hb.mono HBL.out.size))
    clear hb HBL
    go_wp2
    go_ret2
    exact ⟨rfl, HB.out⟩
  | true =>
    rw [if_pos rfl] at h
    by_cases hop : 1 ≤ op ∧ op ≤ 39
    · rw [if_pos hop] at h
      obtain ⟨x, hF, h⟩ := Option.bind_eq_some_iff.mp h
      obtain ⟨rfl, rfl⟩ := Prod.mk.inj (Option.some.inj h)
      have HF := Aside0.mk hF
      have p0 : 0 ≤ op := by omega
      have p1 : op < 40 := by omega
      have HC0 := Aside0.mk (HT.out.bases op.toNat (by omega))
      clear h hF hop
      generalize basesL.getD op.toNat 0 = bz at HC0 ⊢
      go_enter Tryd.func8, Tryd.ntmps8
      go_wp2_with (fail)
      refine (inst_Is.calls k op d n m a im mk sh am cn true _ HI.out (tabs_of HT HBL.out)).mono ?_
      rintro e w1 ⟨rfl, hb⟩
      have KB := Aside0.mk (blk_below K0.out hb)
      have HB := Aside0.mk (HBL.out.trans (hb.mono HBL.out.size))
      have HC := Aside0.mk ((HB.out.cell (World.block_lt_of_cell? _ _ HC0.out)).trans HC0.out)
      clear hb HBL K0 HC0
      have HBL := HB
      go_wp2
      refine start_ (n := 9) (S := fun w' => w'.heap[w.heap.size]? = some (.cells #[.int .i64 op, .int .i64 d, .int .i64 n, .int .i64 m, .int .i64 a, .int .i64 im, .int .u64 mk, .int .i64 sh, .int .i64 am, .int .i64 cn] 24) ∧ w'.cell? ⟨0, op.toNat, none⟩ = some (.int .u32 bz) ∧ Below w.heap.size w w') (ds := []) #[false, false, false, false, false, false, false, false, false] (by kernel_rfl) rfl rfl ⟨KB.out, HC.out, below_drew1 HBL.out⟩ (fun hHeld => ?_)
      refine pure_ (i := 0) (N := some 7) (v := ?_) (a' := ?_) #[true, false, false, false, false, false, false, false, false] rfl rfl (by kernel_rfl) (fun _ _ _ h => h) (Or.inl ⟨by rfl, ?_⟩) ?_ ?_
      rotate_left
      · intro w'
        go_simp
        with_reducible rfl
      rotate_left
      · simp only [Act.put, List.setIfInBounds_toArray, List.set_cons_zero, List.set_cons_succ, i64_w, i32_w]
        rfl
      refine take_ (i := 1) (N := some 8) (v := ?_) (a' := ?_) #[true, true, false, false, false, false, false, false, false] rfl rfl (by kernel_rfl) (fun _ _ _ h => h) (Or.inl ⟨by rfl, ?_⟩) hHeld ?_ ?_
      rotate_left
      · intro w' s
        have q0 := (blk_cell s.1 0).trans rfl
        go_simp
        with_reducible rfl
      rotate_left
      · simp only [Act.put, List.setIfInBounds_toArray, List.set_cons_zero, List.set_cons_succ, i64_w, i32_w]
        rfl
      refine pure_ (i := 2) (N := some 9) (v := ?_) (a' := ?_) #[true, true, true, false, false, false, false, false, false] rfl rfl (by kernel_rfl) (fun _ _ _ h => h) (Or.inl ⟨by rfl, ?_⟩) ?_ ?_
      rotate_left
      · intro w'
        go_simp
        with_reducible rfl
      rotate_left
      · simp only [Act.put, List.setIfInBounds_toArray, List.set_cons_zero, List.set_cons_succ, i64_w, i32_w]
        rfl
      refine take_ (i := 3) (N := some 10) (v := ?_) (a' := ?_) #[true, true, true, true, false, false, false, false, false] rfl rfl (by kernel_rfl) (fun _ _ _ h => h) (Or.inl ⟨by rfl, ?_⟩) hHeld ?_ ?_
      rotate_left
      · intro w' s
        have q0 := s.2.1
        go_simp
        with_reducible rfl
      rotate_left
      · simp only [Act.put, List.setIfInBounds_toArray, List.set_cons_zero, List.set_cons_succ, i64_w, i32_w]
        rfl
      refine take_ (i := 4) (N := some 11) (v := ?_) (a' := ?_) #[true, true, true, true, true, false, false, false, false] rfl rfl (by kernel_rfl) (fun _ _ _ h => h) (Or.inl ⟨by rfl, ?_⟩) hHeld ?_ ?_
      rotate_left
      · intro w' s
        obtain ⟨k0, k1, k2, k3, k4, k5, k6, k7, k8, k9⟩ := cells10 s.1
        go_simp
        with_reducible rfl
      rotate_left
      · simp only [Act.put, List.setIfInBounds_toArray, List.set_cons_zero, List.set_cons_succ, i64_w, i32_w]
        rfl
      refine one_ (i := 5) (N := some 12) #[true, true, true, true, true, true, false, false, false] rfl rfl (by kernel_rfl) (by decide) (fun K hK => ?_)
      refine goes_ Tryd.func22 (by kernel_rfl) rfl #[.agg #[.int .i64 op, .int .i64 d, .int .i64 n, .int .i64 m, .int .i64 a, .int .i64 im, .int .u64 mk, .int .i64 sh, .int .i64 am, .int .i64 cn]] (by rfl) rfl rfl (by simp only [List.map_toArray, List.map_cons, List.map_nil]; rfl) ?_
      with_reducible refine (code_filled.calls k op d n m a im mk sh am cn x _ HF.out (tabs_of HT hHeld.2.2)).mono ?_
      rintro e w1 ⟨rfl, hb⟩
      refine ⟨_, rfl, ?_⟩
      refine hK.out _ _ ⟨blk_below hHeld.1 hb, (hb.cell (World.block_lt_of_cell? _ _ hHeld.2.1)).trans hHeld.2.1, hHeld.2.2.trans (hb.mono hHeld.2.2.size)⟩ (fun hHeld => ?_)
      clear hK K hb
      refine norm_ (a' := ?_) ?_ ?_
      rotate_left
      · show Act.put _ (some 12) _ = _
        simp only [Act.put, List.setIfInBounds_toArray, List.set_cons_zero, List.set_cons_succ, i64_w, i32_w]
        rfl
      refine pure_ (i := 6) (N := some 13) (v := ?_) (a' := ?_) #[true, true, true, true, true, true, true, false, false] rfl rfl (by kernel_rfl) (fun _ _ _ h => h) (Or.inl ⟨by rfl, ?_⟩) ?_ ?_
      rotate_left
      · intro w'
        go_simp
        with_reducible rfl
      rotate_left
      · simp only [Act.put, List.setIfInBounds_toArray, List.set_cons_zero, List.set_cons_succ, i64_w, i32_w]
        rfl
      refine pure_ (i := 7) (N := some 2) (v := ?_) (a' := ?_) #[true, true, true, true, true, true, true, true, false] rfl rfl (by kernel_rfl) (fun _ _ _ h => h) (Or.inl ⟨by rfl, ?_⟩) ?_ ?_
      rotate_left
      · intro w'
        go_simp
        with_reducible rfl
      rotate_left
      · simp only [Act.put, List.setIfInBounds_toArray, List.set_cons_zero, List.set_cons_succ, i64_w, i32_w]
        rfl
      refine pure_ (i := 8) (N := some 3) (v := ?_) (a' := ?_) #[true, true, true, true, true, true, true, true, true] rfl rfl (by kernel_rfl) (fun _ _ _ h => h) (Or.inl ⟨by rfl, ?_⟩) ?_ ?_
      rotate_left
      · intro w'
        go_simp
        with_reducible rfl
      rotate_left
      · simp only [Act.put, List.setIfInBounds_toArray, List.set_cons_zero, List.set_cons_succ, i64_w, i32_w]
        rfl
      refine done_ (by kernel_rfl) ?_
      go_wp2
      go_ret2
      exact ⟨rfl, hHeld.2.2⟩
    · rw [if_neg hop] at h
      cases h

/-! ### code_Opcode: function 12 -/
def opcTest (w : Int) (i : Nat) : Bool := Go.bits .andNot .u32 w (fieldsL.getD (shapesL.getD i 0).toNat 0) == basesL.getD i 0
/-- The first operation from i on that has the word. -/
def opcFrom (w : Int) : Nat → Nat → Int
  | 0, _ => 0
  | f + 1, i => if opcTest w i = true then (i : Int) else opcFrom w f (i + 1)
def code_Opcode.f (a0 : Int) : Option Int := some (opcFrom a0 39 1)
theorem qc_of {P : Program} {f : FuncId} {args : Array Value} {w : World} {n : Nat} {v : Value} (h : Calls P f args (w.drewN n) fun e w' => e = .returned v ∧ Drawn0 (w.drewN n) w') : Calls P f args (w.drewN n) fun e w'' => e = .returned v ∧ ∃ m, w'' = w.drewN m :=
  h.mono fun _ _ ⟨he, ⟨⟨m, hm⟩⟩⟩ => ⟨he, n + m, by rw [hm, World.drewN_drewN]⟩
theorem qc_add {P : Program} {f : FuncId} {args : Array Value} {w : World} {a n : Nat} {v : Value} (h : Calls P f args (w.drewN (a + n)) fun e w' => e = .returned v ∧ Drawn0 (w.drewN (a + n)) w') : Calls P f args (w.drewN (a + n)) fun e w'' => e = .returned v ∧ ∃ m, w'' = w.drewN (a + m) :=
  h.mono fun _ _ ⟨he, ⟨⟨m, hm⟩⟩⟩ => ⟨he, n + m, by rw [hm, World.drewN_drewN, Nat.add_assoc]⟩
theorem shape_lt : ∀ i, i < 40 → 0 ≤ shapesL.getD i 0 ∧ shapesL.getD i 0 < 17 := by decide
set_option maxHeartbeats 4000000 in
set_option maxRecDepth 100000 in
theorem code_Opcode.calls (a0 : Int) (r : Int) (w : World) (h : code_Opcode.f a0 = some r) (HT : Aside0 (Tabs w)) :
    Calls Tryd.prog 12 #[.int .u32 a0] w fun e w' => e = .returned (.int .i64 r) ∧ Drawn0 w w' := by
  have HH := Aside0.mk (Option.some.inj h)
  clear h
  go_enter Tryd.func12, Tryd.ntmps12
  go_wp2
  go_loopg [3] 40 (fun gk v3 wr => ∃ (i : Nat) (z : Int) (n : Nat), v3 = .int .i64 z ∧ wr = w.drewN n ∧ Aside0 ((i : Int) = z ∧ 40 - i < gk ∧ 1 ≤ i ∧ i ≤ 40 ∧ opcFrom a0 (40 - i) i = r))
  case atStart => exact ⟨1, 1, 0, rfl, rfl, ⟨rfl, by omega, by omega, by omega, HH.out⟩⟩
  case round =>
    obtain ⟨i, z, n, rfl, rfl, HA⟩ := hrel
    obtain ⟨h1, h2, h3, h4, h5⟩ := HA.out
    by_cases hlt : i < 40
    · have c1 : decide (z ≤ 39) = true := decide_eq_true (by omega)
      have hs := shape_lt i hlt
      have hf : inst_Shape.f z = some (shapesL.getD i 0) := by unfold inst_Shape.f; rw [if_pos (by omega), show z.toNat = i by omega]
      have hc := HT.out.fields (shapesL.getD i 0).toNat (by omega)
      have hb := HT.out.bases i hlt
      rw [show i = z.toNat by omega] at hb
      have hstep : opcFrom a0 (40 - i) i = if opcTest a0 i = true then (i : Int) else opcFrom a0 (40 - (i + 1)) (i + 1) := by
        rw [show 40 - i = (40 - (i + 1)) + 1 by omega]; rfl
      have hte : opcTest a0 i = (Go.bits .andNot .u32 a0 (fieldsL.getD (shapesL.getD i 0).toNat 0) == basesL.getD i 0) := rfl
      rw [show basesL.getD z.toNat 0 = basesL.getD i 0 by rw [show z.toNat = i by omega]] at hb
      generalize shapesL.getD i 0 = s at *
      generalize fieldsL.getD s.toNat 0 = fl at *
      generalize basesL.getD i 0 = b at *
      have p0 : (0 ≤ s) = True := eq_true (by omega)
      have p1 : (s < 17) = True := eq_true (by omega)
      have p2 : (0 ≤ z) = True := eq_true (by omega)
      have p3 : (z < 40) = True := eq_true (by omega)
      have hzz : IntKind.i64.wrap (z + 1) = z + 1 := (i64_w _).trans (by simp only [wrap64]; omega)
      have HF := Aside0.mk hf
      rw [h5] at hstep
      cases ht : opcTest a0 i
      · rw [ht] at hstep hte
        have c2 : (Go.bits .andNot .u32 a0 fl == b) = false := hte.symm
        have HN : Aside0 ((i + 1 : Nat) = z + 1 ∧ 40 - (i + 1) < 40 - i ∧ 40 - i < gk ∧ i + 1 ≤ 40 ∧ opcFrom a0 (40 - (i + 1)) (i + 1) = r) := ⟨by omega, by omega, by omega, by omega, by simpa using hstep.symm⟩
        clear h1 h2 h3 h4 h5 hlt hs hf hstep hte ht HA
        go_wp2
        go_quiet ((go_at_call 16; first | exact qc_add (inst_Shape.calls z s _ HF.out ⟨⟨HT.out.shapes, HT.out.bases, HT.out.fields⟩⟩) | exact qc_of (inst_Shape.calls z s _ HF.out ⟨⟨HT.out.shapes, HT.out.bases, HT.out.fields⟩⟩)))
        go_wp2
        go_roundg (40 - i)
        case measure => exact HN.out.2.2.1
        case rel => exact ⟨i + 1, z + 1, _, rfl, rfl, ⟨HN.out.1, HN.out.2.1, by omega, HN.out.2.2.2.1, HN.out.2.2.2.2⟩⟩
      · rw [ht] at hstep hte
        have c2 : (Go.bits .andNot .u32 a0 fl == b) = true := hte.symm
        have HN : Aside0 (r = z) := ⟨by rw [hstep]; simpa using h1⟩
        clear h1 h2 h3 h4 h5 hlt hs hf hstep hte ht HA
        go_wp2
        go_quiet ((go_at_call 16; first | exact qc_add (inst_Shape.calls z s _ HF.out ⟨⟨HT.out.shapes, HT.out.bases, HT.out.fields⟩⟩) | exact qc_of (inst_Shape.calls z s _ HF.out ⟨⟨HT.out.shapes, HT.out.bases, HT.out.fields⟩⟩)))
        go_wp2
        go_ret
        refine ⟨by rw [HN.out]; rfl, ?_⟩
        rw [World.drewN_drewN]
        exact ⟨⟨_, rfl⟩⟩
    · have c1 : decide (z ≤ 39) = false := decide_eq_false (by omega)
      have HN : Aside0 (r = 0) := ⟨by rw [← h5, show 40 - i = 0 by omega]; rfl⟩
      clear h1 h2 h3 h4 h5 hlt HA
      go_wp2
      go_ret
      exact ⟨by rw [HN.out]; rfl, ⟨⟨_, rfl⟩⟩⟩

/-! ### code_part: function 45 -/
def code_part.f (a0 : Int) (a1 : Int) (a2 : Int) : Option (Int) := (bits_Field.f a0 a1 a2).bind fun bt165 => (some (wrap64 (bt165.1)))
set_option maxHeartbeats 8000000 in
set_option maxRecDepth 100000 in
theorem code_part.calls (a0 : Int) (a1 : Int) (a2 : Int) (r : Int) (w : World) (h : code_part.f a0 a1 a2 = some r) :
  Calls Tryd.prog 45 #[.int .u32 a0, .int .i64 a1, .int .i64 a2] w fun e w' => e = .returned (.int .i64 r) ∧ Drawn0 w w' := by
 have H : ((bits_Field.f a0 a1 a2).bind fun bt165 => (some (wrap64 (bt165.1)))) = some r := h
 clear h
 replace H := Option.bind_eq_some_iff.mp H
 obtain ⟨⟨t165, t166⟩, A40, H⟩ := H
 replace H : (some (wrap64 (t165))) = some r := H
 have A4 := Aside0.mk A40
 clear A40
 obtain rfl := Option.some.inj H
 go_enter Tryd.func45, Tryd.ntmps45
 go_wp2_with (first | ((with_reducible refine gate_callee (f := 13) rfl ?_); refine goesL_ (some 13) rfl rfl Tryd.func13 (by kernel_rfl) rfl #[.int .u32 a0, .int .i64 a1, .int .i64 a2] rfl (by (try simp only [List.map_toArray, List.map_cons, List.map_nil]); first | done | rfl | (simp only [List.length_drop, List.length_take]; rfl)) ?_; (with_reducible refine (bits_Field.calls a0 a1 a2 t165 t166 _ A4.out).mono ?_); rintro e w' ⟨rfl, ⟨nd, rfl⟩⟩; refine ⟨_, rfl, ?_⟩))
 go_ret
 exact ⟨by first | rfl | (simp; done) | (simp [*]; done), by repeat (first | exact Drawn0.refl _ | apply Drawn0.step)⟩

/-! ### mask_read: function 75 -/
def mask_read.l0 : Nat → Int → Int → Int → Int → Option (Int × Int × Int)
  | 0, _, _, _, _ => none
  | k + 1, x0, x1, x2, x8 => if x8 ≤ 64 then ((mask_extra.f x8).bind fun t => (if ((x8 == 64) == (x0 == 1)) = true then (if wrap64 (wrap64 (x2 + 1) - t) ≥ 1 then (if wrap64 (wrap64 (x2 + 1) - t) < x8 then (if x1 < x8 then (some (x8, x1, wrap64 (wrap64 (x2 + 1) - t))) else (mask_read.l0 k x0 x1 x2 (wrap64 (x8 * 2)))) else (mask_read.l0 k x0 x1 x2 (wrap64 (x8 * 2)))) else (mask_read.l0 k x0 x1 x2 (wrap64 (x8 * 2)))) else (mask_read.l0 k x0 x1 x2 (wrap64 (x8 * 2))))) else (some (0, 0, 0))
def mask_read.f (k : Nat) (a0 a1 a2 : Int) : Option (Int × Int × Int) := mask_read.l0 k a0 a1 a2 2
theorem mask_read.mono_l : ∀ k, (∀ y0 y1 y2 y3, LeO (mask_read.l0 k y0 y1 y2 y3) (mask_read.l0 (k + 1) y0 y1 y2 y3))
  | 0 => fun _ _ _ _ r h => by simp [mask_read.l0] at h
  | k + 1 => by
    have ih0 := mask_read.mono_l k
    intro y0 y1 y2 y3
    unfold mask_read.l0
    exact LeO.ite (LeO.bind (LeO.refl _) (fun _ => LeO.ite (LeO.ite (LeO.ite (LeO.ite (LeO.refl _) (ih0 _ _ _ _)) (ih0 _ _ _ _)) (ih0 _ _ _ _)) (ih0 _ _ _ _))) (LeO.refl _)
theorem mask_read.mono : ∀ a0 a1 a2 k, LeO (mask_read.f k a0 a1 a2) (mask_read.f (k + 1) a0 a1 a2) := fun a0 a1 a2 k => mask_read.mono_l k a0 a1 a2 2
/-- The result's block, and the captured size behind it. -/
structure AtRead (w0 : World) (s : Int) (w : World) : Prop where
  size : AtSize w0 (w0.heap.size + 1) s w
  res : w.heap[w0.heap.size]? = some (.cells #[.int .i64 0, .int .i64 0, .int .i64 0] 71 (0, 0))
theorem AtRead.drewN {w0 : World} {s : Int} {w : World} (h : AtRead w0 s w) (n : Nat) : AtRead w0 s (w.drewN n) := ⟨h.size.drewN n, by simpa using h.res⟩
theorem AtRead.set {w0 : World} {s : Int} {w : World} (h : AtRead w0 s w) (s' : Int) : AtRead w0 s' (w.setCell ⟨w0.heap.size + 1, 0, none⟩ (.int .i64 s')) :=
  ⟨h.size.set s', (Below.heap_setCell w _ _ _ (by simp)).trans h.res⟩
theorem AtRead.made (w : World) (s : Int) : AtRead w s ((w.alloc (.cells #[.int .i64 0, .int .i64 0, .int .i64 0] 71)).alloc (.cells #[.int .i64 s] 3)) where
  size := ⟨by simp [World.cell?_alloc_at], by simp [World.frozen?_alloc_at], ((Below.refl _ _).alloc (Nat.le_refl _) _).alloc (by simp) _, by simp, by simp⟩
  res := blk_alloc (blk_new w _) _
set_option maxHeartbeats 1000000 in
theorem mask_read.calls (k : Nat) (a0 : Int) (a1 : Int) (a2 : Int) (r1 : Int) (r2 : Int) (r3 : Int) (w : World) (h : mask_read.f k a0 a1 a2 = some (r1, r2, r3)) :
    Calls Tryd.prog 75 #[.int .i64 a0, .int .i64 a1, .int .i64 a2] w fun e w' => e = .returned (.agg #[.int .i64 r1, .int .i64 r2, .int .i64 r3]) ∧ Below w.heap.size w w' := by
  have H : mask_read.l0 k a0 a1 a2 2 = some (r1, r2, r3) := h
  clear h
  have H' := Aside0.mk H
  clear H
  have hu_ := Tryd.underlying71
  go_enter Tryd.func75, Tryd.ntmps75
  go_wp2_with (first | (go_at_call 73; refine (mask_sizes.made _).mono ?_; rintro e w' ⟨rfl, rfl⟩) | (go_at_call 79; refine (mask_sizes.next _ 1 _ (by simp [World.cell?_alloc_at]) (by simp [World.frozen?_alloc_at])).mono ?_; rintro e w' ⟨rfl, rfl⟩))
  have HS3 := Aside0.mk (AtRead.made w (wrap64 2))
  rw [show (2 : Int) = wrap64 2 by unfold wrap64; rfl] at H'
  go_loopg [8] k (fun kq v8 w' => ∃ s : Int, v8 = .int .i64 s ∧ Aside0 (AtRead w s w') ∧ Aside0 (mask_read.l0 kq a0 a1 a2 s = some (r1, r2, r3)) ∧ Aside0 (kq ≤ k))
  case atStart => exact ⟨_, rfl, HS3, H', ⟨Nat.le_refl _⟩⟩
  case round =>
    clear H' HS3
    obtain ⟨s, rfl, HS, HA, HK⟩ := hrel
    cases gk with
    | zero => exact absurd HA.out (by simp [mask_read.l0])
    | succ k1 =>
      have H := HA.out
      clear HA
      simp only [mask_read.l0] at H
      by_cases c1 : s ≤ 64
      · rw [if_pos c1] at H
        have c1b : decide (s ≤ 64) = true := decide_eq_true c1
        clear c1
        replace H := Option.bind_eq_some_iff.mp H
        obtain ⟨t, hE, H⟩ := H
        have HE := Aside0.mk hE
        clear hE
        obtain ⟨o, ho⟩ : ∃ o_, wrap64 (wrap64 (a2 + 1) - t) = o_ := ⟨_, rfl⟩
        rw [ho] at H
        have Ho := Aside0.mk ho
        clear ho
        have again : ∀ (W : World), AtRead w s W → True := fun _ _ => trivial
        clear again
        by_cases c2 : ((s == 64) == (a0 == 1)) = true
        · rw [if_pos c2] at H
          by_cases c3 : o ≥ 1
          · rw [if_pos c3] at H
            have c3b : decide (1 ≤ o) = true := decide_eq_true c3
            clear c3
            by_cases c4 : o < s
            · rw [if_pos c4] at H
              have c4b : decide (o < s) = true := decide_eq_true c4
              clear c4
              by_cases c5 : a1 < s
              · rw [if_pos c5] at H
                have c5b : decide (a1 < s) = true := decide_eq_true c5
                clear c5
                simp only [Option.some.injEq, Prod.mk.injEq] at H
                obtain ⟨rfl, rfl, rfl⟩ := H
                have hb := blk_cell HS.out.res
                have hc0 := hb 0
                have hc1 := hb 1
                have hc2 := hb 2
                simp at hc0 hc1 hc2
                have hf0 := blk_frozen HS.out.res 0
                have hf1 := blk_frozen HS.out.res 1
                have hf2 := blk_frozen HS.out.res 2
                clear hb
                have Ho2 := Ho.out
                go_wp2_with (first | (go_at_call 60; refine (mask_extra.calls s t _ HE.out).mono ?_; rintro e w' ⟨rfl, ⟨nd, rfl⟩⟩))
                refine bodyPost_ret (results_cell_row rfl _ _ w.heap.size 71 #[.int .i64 s, .int .i64 a1, .int .i64 o] (0, 0) _ rfl (blk_put (blk_put (blk_put (HS.out.drewN nd).res 0 _ rfl) 1 _ rfl) 2 _ rfl) Tryd.underlying71 rfl (by kernel_rfl)) rfl ?_
                exact ⟨rfl, (((HS.out.drewN nd).size.below.setCell (Nat.le_refl _) _).setCell (Nat.le_refl _) _).setCell (Nat.le_refl _) _⟩
              · rw [if_neg c5] at H
                have c5b : decide (a1 < s) = false := decide_eq_false c5
                clear c5
                have HN := Aside0.mk H
                clear H
                have Ho2 := Ho.out
                go_wp2_with (first | (go_at_call 60; refine (mask_extra.calls s t _ HE.out).mono ?_; rintro e w' ⟨rfl, ⟨nd, rfl⟩⟩) | (go_at_call 79; refine (mask_sizes.next _ s _ (HS.out.drewN _).size.cell (HS.out.drewN _).size.free).mono ?_; rintro e w' ⟨rfl, rfl⟩))
                go_roundg k1
                case measure => have := HK.out; omega
                case rel => exact ⟨_, rfl, ⟨(HS.out.drewN _).set _⟩, HN, ⟨by have := HK.out; omega⟩⟩
            · rw [if_neg c4] at H
              have c4b : decide (o < s) = false := decide_eq_false c4
              clear c4
              have HN := Aside0.mk H
              clear H
              have Ho2 := Ho.out
              go_wp2_with (first | (go_at_call 60; refine (mask_extra.calls s t _ HE.out).mono ?_; rintro e w' ⟨rfl, ⟨nd, rfl⟩⟩) | (go_at_call 79; refine (mask_sizes.next _ s _ (HS.out.drewN _).size.cell (HS.out.drewN _).size.free).mono ?_; rintro e w' ⟨rfl, rfl⟩))
              go_roundg k1
              case measure => have := HK.out; omega
              case rel => exact ⟨_, rfl, ⟨(HS.out.drewN _).set _⟩, HN, ⟨by have := HK.out; omega⟩⟩
          · rw [if_neg c3] at H
            have c3b : decide (1 ≤ o) = false := decide_eq_false c3
            clear c3
            have HN := Aside0.mk H
            clear H
            have Ho2 := Ho.out
            go_wp2_with (first | (go_at_call 60; refine (mask_extra.calls s t _ HE.out).mono ?_; rintro e w' ⟨rfl, ⟨nd, rfl⟩⟩) | (go_at_call 79; refine (mask_sizes.next _ s _ (HS.out.drewN _).size.cell (HS.out.drewN _).size.free).mono ?_; rintro e w' ⟨rfl, rfl⟩))
            go_roundg k1
            case measure => have := HK.out; omega
            case rel => exact ⟨_, rfl, ⟨(HS.out.drewN _).set _⟩, HN, ⟨by have := HK.out; omega⟩⟩
        · rw [if_neg c2] at H
          replace c2 := Bool.eq_false_iff.mpr c2
          have HN := Aside0.mk H
          clear H
          have Ho2 := Ho.out
          go_wp2_with (first | (go_at_call 60; refine (mask_extra.calls s t _ HE.out).mono ?_; rintro e w' ⟨rfl, ⟨nd, rfl⟩⟩) | (go_at_call 79; refine (mask_sizes.next _ s _ (HS.out.drewN _).size.cell (HS.out.drewN _).size.free).mono ?_; rintro e w' ⟨rfl, rfl⟩))
          go_roundg k1
          case measure => have := HK.out; omega
          case rel => exact ⟨_, rfl, ⟨(HS.out.drewN _).set _⟩, HN, ⟨by have := HK.out; omega⟩⟩
      · rw [if_neg c1] at H
        have c1b : decide (s ≤ 64) = false := decide_eq_false c1
        clear c1
        simp only [Option.some.injEq, Prod.mk.injEq] at H
        obtain ⟨rfl, rfl, rfl⟩ := H
        have hb := blk_cell HS.out.res
        have hc0 := hb 0
        have hc1 := hb 1
        have hc2 := hb 2
        simp at hc0 hc1 hc2
        have hf0 := blk_frozen HS.out.res 0
        have hf1 := blk_frozen HS.out.res 1
        have hf2 := blk_frozen HS.out.res 2
        go_wp2
        refine bodyPost_ret (results_cell_row rfl _ _ w.heap.size 71 #[.int .i64 0, .int .i64 0, .int .i64 0] (0, 0) _ rfl (blk_put (blk_put (blk_put HS.out.res 0 _ rfl) 1 _ rfl) 2 _ rfl) Tryd.underlying71 rfl (by kernel_rfl)) rfl ?_
        exact ⟨rfl, ((HS.out.size.below.setCell (Nat.le_refl _) _).setCell (Nat.le_refl _) _).setCell (Nat.le_refl _) _⟩

/-! ### mask_Decode: function 65 -/
mutual
def mask_Decode.j0 : Nat → Int → Int → Int → Bool → Option (Int × Int)
 | 0, _, _, _, _ => none
 | k + 1, x0, x1, x2, x33 => if x33 = true then (some (0, 1)) else ((mask_read.f k x0 x1 x2).bind fun bt167 => (if (bt167.1 == 0 && (bt167.2.1 == 0 && (bt167.2.2 == 0))) = true then (some (0, 3)) else ((mask_part.f k bt167.1 bt167.2.1 bt167.2.2).bind fun t171 => (mask_Decode.l0 k t171 0 0 bt167.1 bt167.2.1 bt167.2.2))))
def mask_Decode.l0 : Nat → Int → Int → Int → Int → Int → Int → Option (Int × Int)
 | 0, _, _, _, _, _, _ => none
 | k + 1, x9, x10, x11, x171000, x171001, x171002 => if x11 < 64 then (if 0 ≤ x11 then (mask_Decode.l0 k x9 (Go.bits .or .u64 x10 (shl .u64 x9 x11)) (wrap64 (x11 + x171000)) x171000 x171001 x171002) else (none)) else (some (x10, 0))
end
def mask_Decode.f (k : Nat) (a0 : Int) (a1 : Int) (a2 : Int) : Option (Int × Int) := if a0 < 0 then (mask_Decode.j0 k a0 a1 a2 true) else (if a0 > 1 then (mask_Decode.j0 k a0 a1 a2 true) else (if a1 < 0 then (mask_Decode.j0 k a0 a1 a2 true) else (if a1 > 63 then (mask_Decode.j0 k a0 a1 a2 true) else (if a2 < 0 then (mask_Decode.j0 k a0 a1 a2 true) else (mask_Decode.j0 k a0 a1 a2 (decide (a2 > 63)))))))
theorem mask_Decode.mono_l : ∀ k, (∀ y0 y1 y2 y3, LeO (mask_Decode.j0 k y0 y1 y2 y3) (mask_Decode.j0 (k + 1) y0 y1 y2 y3)) ∧ (∀ y0 y1 y2 y3 y4 y5, LeO (mask_Decode.l0 k y0 y1 y2 y3 y4 y5) (mask_Decode.l0 (k + 1) y0 y1 y2 y3 y4 y5))
 | 0 => ⟨fun _ _ _ _ r h => by simp [mask_Decode.j0] at h, fun _ _ _ _ _ _ r h => by simp [mask_Decode.l0] at h⟩
 | k + 1 => by
  obtain ⟨ih0, ih1⟩ := mask_Decode.mono_l k
  refine ⟨?_, ?_⟩
  ·intro y0 y1 y2 y3
   unfold mask_Decode.j0
   repeat' first
   | (with_reducible exact ih0 _ _ _ _)
   | (with_reducible exact ih1 _ _ _ _ _ _)
   | (with_reducible exact mask_part.mono _ _ _ _)
   | (with_reducible exact mask_read.mono _ _ _ _)
   | (with_reducible exact LeO.refl _)
   | (with_reducible exact LeO.none _)
   | (with_reducible refine LeO.ite ?_ ?_)
   | (with_reducible refine LeO.bind ?_ (fun _ => ?_))
   | exact ih0 _ _ _ _
   | exact ih1 _ _ _ _ _ _
   | exact mask_part.mono _ _ _ _
   | exact mask_read.mono _ _ _ _
   | exact LeO.none _
   | refine LeO.ite ?_ ?_
   | refine LeO.bind ?_ (fun _ => ?_)
  ·intro y0 y1 y2 y3 y4 y5
   unfold mask_Decode.l0
   repeat' first
   | (with_reducible exact ih0 _ _ _ _)
   | (with_reducible exact ih1 _ _ _ _ _ _)
   | (with_reducible exact mask_part.mono _ _ _ _)
   | (with_reducible exact mask_read.mono _ _ _ _)
   | (with_reducible exact LeO.refl _)
   | (with_reducible exact LeO.none _)
   | (with_reducible refine LeO.ite ?_ ?_)
   | (with_reducible refine LeO.bind ?_ (fun _ => ?_))
   | exact ih0 _ _ _ _
   | exact ih1 _ _ _ _ _ _
   | exact mask_part.mono _ _ _ _
   | exact mask_read.mono _ _ _ _
   | exact LeO.none _
   | refine LeO.ite ?_ ?_
   | refine LeO.bind ?_ (fun _ => ?_)
theorem mask_Decode.mono : ∀ a0 a1 a2 k, LeO (mask_Decode.f k a0 a1 a2) (mask_Decode.f (k + 1) a0 a1 a2) := by
 intro a0 a1 a2 k
 obtain ⟨ih0, ih1⟩ := mask_Decode.mono_l k
 unfold mask_Decode.f
 repeat' first
   | (with_reducible exact ih0 _ _ _ _)
   | (with_reducible exact ih1 _ _ _ _ _ _)
   | (with_reducible exact mask_part.mono _ _ _ _)
   | (with_reducible exact mask_read.mono _ _ _ _)
   | (with_reducible exact LeO.refl _)
   | (with_reducible exact LeO.none _)
   | (with_reducible refine LeO.ite ?_ ?_)
   | (with_reducible refine LeO.bind ?_ (fun _ => ?_))
   | exact ih0 _ _ _ _
   | exact ih1 _ _ _ _ _ _
   | exact mask_part.mono _ _ _ _
   | exact mask_read.mono _ _ _ _
   | exact LeO.none _
   | refine LeO.ite ?_ ?_
   | refine LeO.bind ?_ (fun _ => ?_)
set_option maxHeartbeats 8000000 in
set_option maxRecDepth 100000 in
theorem mask_Decode.calls (k : Nat) (a0 : Int) (a1 : Int) (a2 : Int) (r1 : Int) (r2 : Int) (w : World) (h : mask_Decode.f k a0 a1 a2 = some (r1, r2)) :
  Calls Tryd.prog 65 #[.int .i64 a0, .int .i64 a1, .int .i64 a2] w fun e w' => e = .returned (.tuple #[.int .u64 r1, .int .i64 r2]) ∧ Below w.heap.size w w' := by
 have hu71 := Tryd.underlying71
 have HB := Aside0.mk (Below.refl w.heap.size w)
 have H : (if a0 < 0 then (mask_Decode.j0 k a0 a1 a2 true) else (if a0 > 1 then (mask_Decode.j0 k a0 a1 a2 true) else (if a1 < 0 then (mask_Decode.j0 k a0 a1 a2 true) else (if a1 > 63 then (mask_Decode.j0 k a0 a1 a2 true) else (if a2 < 0 then (mask_Decode.j0 k a0 a1 a2 true) else (mask_Decode.j0 k a0 a1 a2 (decide (a2 > 63)))))))) = some (r1, r2) := h
 clear h
 have HC4 := Aside0.mk H
 clear H
 go_enter Tryd.func65, Tryd.ntmps65
 go_upto_region 1 with (fail)
 go_cut [33] (fun v33 wc => ∃ (kq : Nat) (x33_3 : Bool), v33 = .bool x33_3 ∧ Aside0 (mask_Decode.j0 kq a0 a1 a2 x33_3 = some (r1, r2)) ∧ Aside0 (kq ≤ k) ∧ Aside0 (Below w.heap.size w wc))
 case first =>
  have H := HC4.out
  clear HC4
  by_cases c5 : a0 < 0
  ·rw [if_pos c5] at H
   have c5b0 : decide (a0 < 0) = true := decide_eq_true c5
   clear c5
   (first | rw [c5b0] | (simp only [i64_w, i32_w]; rw [c5b0]) | skip)
   have H' := Aside0.mk H
   clear H
   go_wp2
   go_meet
   case rel => exact ⟨_, (true), (by first | rfl | (simp; done) | (simp [*]; done)), H', ⟨by first | omega | exact Nat.le_refl _⟩, ⟨by repeat (first | (with_reducible first | exact HB.out | apply below_alloc | apply pw_below_drewN | apply below_drew1) | exact HB.out)⟩⟩
  ·rw [if_neg c5] at H
   have c5b0 : decide (a0 < 0) = false := decide_eq_false c5
   clear c5
   (first | rw [c5b0] | (simp only [i64_w, i32_w]; rw [c5b0]) | skip)
   by_cases c6 : a0 > 1
   ·rw [if_pos c6] at H
    have c6b0 : decide (1 < a0) = true := decide_eq_true c6
    clear c6
    have H' := Aside0.mk H
    clear H
    go_wp2
    go_meet
    case rel => exact ⟨_, (true), (by first | rfl | (simp; done) | (simp [*]; done)), H', ⟨by first | omega | exact Nat.le_refl _⟩, ⟨by repeat (first | (with_reducible first | exact HB.out | apply below_alloc | apply pw_below_drewN | apply below_drew1) | exact HB.out)⟩⟩
   ·rw [if_neg c6] at H
    have c6b0 : decide (1 < a0) = false := decide_eq_false c6
    clear c6
    by_cases c7 : a1 < 0
    ·rw [if_pos c7] at H
     have c7b0 : decide (a1 < 0) = true := decide_eq_true c7
     clear c7
     have H' := Aside0.mk H
     clear H
     go_wp2
     go_meet
     case rel => exact ⟨_, (true), (by first | rfl | (simp; done) | (simp [*]; done)), H', ⟨by first | omega | exact Nat.le_refl _⟩, ⟨by repeat (first | (with_reducible first | exact HB.out | apply below_alloc | apply pw_below_drewN | apply below_drew1) | exact HB.out)⟩⟩
    ·rw [if_neg c7] at H
     have c7b0 : decide (a1 < 0) = false := decide_eq_false c7
     clear c7
     by_cases c8 : a1 > 63
     ·rw [if_pos c8] at H
      have c8b0 : decide (63 < a1) = true := decide_eq_true c8
      clear c8
      have H' := Aside0.mk H
      clear H
      go_wp2
      go_meet
      case rel => exact ⟨_, (true), (by first | rfl | (simp; done) | (simp [*]; done)), H', ⟨by first | omega | exact Nat.le_refl _⟩, ⟨by repeat (first | (with_reducible first | exact HB.out | apply below_alloc | apply pw_below_drewN | apply below_drew1) | exact HB.out)⟩⟩
     ·rw [if_neg c8] at H
      have c8b0 : decide (63 < a1) = false := decide_eq_false c8
      clear c8
      by_cases c9 : a2 < 0
      ·rw [if_pos c9] at H
       have c9b0 : decide (a2 < 0) = true := decide_eq_true c9
       clear c9
       have H' := Aside0.mk H
       clear H
       go_wp2
       go_meet
       case rel => exact ⟨_, (true), (by first | rfl | (simp; done) | (simp [*]; done)), H', ⟨by first | omega | exact Nat.le_refl _⟩, ⟨by repeat (first | (with_reducible first | exact HB.out | apply below_alloc | apply pw_below_drewN | apply below_drew1) | exact HB.out)⟩⟩
      ·rw [if_neg c9] at H
       have c9b0 : decide (a2 < 0) = false := decide_eq_false c9
       clear c9
       have H' := Aside0.mk H
       clear H
       go_wp2
       go_meet
       case rel => exact ⟨_, (decide (a2 > 63)), (by first | rfl | (simp; done) | (simp [*]; done)), H', ⟨by first | omega | exact Nat.le_refl _⟩, ⟨by repeat (first | (with_reducible first | exact HB.out | apply below_alloc | apply pw_below_drewN | apply below_drew1) | exact HB.out)⟩⟩
 case rest =>
  clear HC4
  try clear p2
  try clear c5
  try clear c5b0
  try clear c6
  try clear c6b0
  try clear c7
  try clear c7b0
  try clear c8
  try clear c8b0
  try clear c9
  try clear c9b0
  obtain ⟨kq, x33_3, rfl, HA, HJ3, HB⟩ := hcut
  cases kq with
  | zero => exact absurd HA.out (by simp [mask_Decode.j0])
  | succ kj3 =>
   have H := HA.out
   clear HA
   simp only [mask_Decode.j0] at H
   by_cases c10 : x33_3 = true
   ·subst c10
    rw [if_pos rfl] at H
    simp only [Option.some.injEq, Prod.mk.injEq] at H
    obtain ⟨rfl, rfl⟩ := H
    go_wp2
    go_ret2
    exact ⟨by first | rfl | (simp [errW_none, errW_some] <;> rfl) | (simp [*, errW_none, errW_some] <;> rfl), by repeat (first | (with_reducible first | exact HB.out | apply below_alloc | apply pw_below_drewN | apply below_drew1) | exact HB.out)⟩
   ·replace c10 := Bool.eq_false_iff.mpr c10
    subst c10
    rw [if_neg (show ¬ (false = true) by decide)] at H
    replace H := Option.bind_eq_some_iff.mp H
    obtain ⟨⟨t167, t168, t169⟩, A110, H⟩ := H
    replace H : (if (t167 == 0 && (t168 == 0 && (t169 == 0))) = true then (some (0, 3)) else ((mask_part.f kj3 t167 t168 t169).bind fun t171 => (mask_Decode.l0 kj3 t171 0 0 t167 t168 t169))) = some (r1, r2) := H
    have A11 := Aside0.mk A110
    clear A110
    by_cases c12 : (t167 == 0 && (t168 == 0 && (t169 == 0))) = true
    ·rw [if_pos c12] at H
     have c12b0 : (t167 == 0 && (t168 == 0 && (t169 == 0))) = true := c12
     (try (have c12b1 : decide (t167 = 0 && (t168 == 0 && (t169 == 0))) = true := by simpa using c12))
     (try (have c12b2 : (t167 == 0 && (t168 == 0 && (t169 == 0))) = true := by simpa using c12))
     clear c12
     simp only [Option.some.injEq, Prod.mk.injEq] at H
     obtain ⟨rfl, rfl⟩ := H
     go_wp2_with (first | ((with_reducible refine gate_callee (f := 75) rfl ?_); refine goesL_ (some 37) rfl rfl Tryd.func75 (by kernel_rfl) rfl #[.int .i64 a0, .int .i64 a1, .int .i64 a2] rfl (by (try simp only [List.map_toArray, List.map_cons, List.map_nil]); first | done | rfl | (simp only [List.length_drop, List.length_take]; rfl)) ?_; (with_reducible refine (mask_read.calls kj3 a0 a1 a2 t167 t168 t169 _ A11.out).mono ?_); rintro e w13 ⟨rfl, hb⟩; refine ⟨_, rfl, ?_⟩; have n0_ := Aside0.mk (below_step (by repeat (first | (with_reducible first | exact HB.out | apply below_alloc | apply pw_below_drewN | apply below_drew1) | exact HB.out)) hb); clear HB; have HB := n0_; clear n0_; (try clear hb); (try clear hb2); (try clear hk); (try clear hi)) | ((with_reducible refine gate_dst (N := 8) rfl ?_); refine box_event ?hg (N := 8) ?hd (cs := #[.int .i64 0, .int .i64 0, .int .i64 0]) (t := 71) ?hr ?_; (case hd => rfl); (case hg => rfl); (case hr => first | (go_simp; done) | (go_simp; rfl)); intro gb170 hg w14 hbox hb; have n0_ := Aside0.mk (below_step (by repeat (first | (with_reducible first | exact HB.out | apply below_alloc | apply pw_below_drewN | apply below_drew1) | exact HB.out)) hb); have n1_ := Aside0.mk (hbox); have n2_ := Aside0.mk ((by rw [hg]; exact (below_size (by repeat (first | (with_reducible first | exact HB.out | apply below_alloc | apply pw_below_drewN | apply below_drew1) | exact HB.out))) : w.heap.size ≤ gb170)); have n3_ := Aside0.mk ((by rw [hg]; exact (below_size (by repeat (first | (with_reducible first | exact HB.out | apply below_alloc | apply pw_below_drewN | apply below_drew1) | exact HB.out))) : w.heap.size ≤ gb170)); clear HB; have HB := n0_; have BK170 := n1_; have GW170 := n2_; have GE170 := n3_; clear n0_ n1_ n2_ n3_; clear hb hbox hg; have hcz15_0 : w14.cell? ⟨gb170, 0, none⟩ = some (.int .i64 0) := (blk_cell BK170.out 0).trans rfl; have hcz15_1 : w14.cell? ⟨gb170, 1, none⟩ = some (.int .i64 0) := (blk_cell BK170.out 1).trans rfl; have hcz15_2 : w14.cell? ⟨gb170, 2, none⟩ = some (.int .i64 0) := (blk_cell BK170.out 2).trans rfl; have hfz15_0 := blk_frozen BK170.out 0; have hfz15_1 := blk_frozen BK170.out 1; have hfz15_2 := blk_frozen BK170.out 2))
     go_ret2
     exact ⟨by first | rfl | (simp [errW_none, errW_some] <;> rfl) | (simp [*, errW_none, errW_some] <;> rfl), by repeat (first | (with_reducible first | exact HB.out | apply below_alloc | apply pw_below_drewN | apply below_drew1 | refine below_set ?_ GE170.out) | exact HB.out)⟩
    ·rw [if_neg c12] at H
     have c12b0 : (t167 == 0 && (t168 == 0 && (t169 == 0))) = false := by simpa using c12
     (try (have c12b1 : decide (t167 = 0 && (t168 == 0 && (t169 == 0))) = false := by simpa using c12))
     (try (have c12b2 : (t167 == 0 && (t168 == 0 && (t169 == 0))) = false := by simpa using c12))
     (try (have c12b3 : ¬ (t167 = 0 && (t168 == 0 && (t169 == 0))) := by simpa using c12))
     clear c12
     replace H := Option.bind_eq_some_iff.mp H
     obtain ⟨t171, A160, H⟩ := H
     replace H : (mask_Decode.l0 kj3 t171 0 0 t167 t168 t169) = some (r1, r2) := H
     have A16 := Aside0.mk A160
     clear A160
     have H' := Aside0.mk H
     clear H
     go_wp2_with (first | ((with_reducible refine gate_callee (f := 75) rfl ?_); refine goesL_ (some 37) rfl rfl Tryd.func75 (by kernel_rfl) rfl #[.int .i64 a0, .int .i64 a1, .int .i64 a2] rfl (by (try simp only [List.map_toArray, List.map_cons, List.map_nil]); first | done | rfl | (simp only [List.length_drop, List.length_take]; rfl)) ?_; (with_reducible refine (mask_read.calls kj3 a0 a1 a2 t167 t168 t169 _ A11.out).mono ?_); rintro e w17 ⟨rfl, hb⟩; refine ⟨_, rfl, ?_⟩; have n0_ := Aside0.mk (below_step (by repeat (first | (with_reducible first | exact HB.out | apply below_alloc | apply pw_below_drewN | apply below_drew1) | exact HB.out)) hb); clear HB; have HB := n0_; clear n0_; (try clear hb); (try clear hb2); (try clear hk); (try clear hi)) | ((with_reducible refine gate_dst (N := 8) rfl ?_); refine box_event ?hg (N := 8) ?hd (cs := #[.int .i64 0, .int .i64 0, .int .i64 0]) (t := 71) ?hr ?_; (case hd => rfl); (case hg => rfl); (case hr => first | (go_simp; done) | (go_simp; rfl)); intro gb170 hg w18 hbox hb; have n0_ := Aside0.mk (below_step (by repeat (first | (with_reducible first | exact HB.out | apply below_alloc | apply pw_below_drewN | apply below_drew1) | exact HB.out)) hb); have n1_ := Aside0.mk (hbox); have n2_ := Aside0.mk ((by rw [hg]; exact (below_size (by repeat (first | (with_reducible first | exact HB.out | apply below_alloc | apply pw_below_drewN | apply below_drew1) | exact HB.out))) : w.heap.size ≤ gb170)); have n3_ := Aside0.mk ((by rw [hg]; exact (below_size (by repeat (first | (with_reducible first | exact HB.out | apply below_alloc | apply pw_below_drewN | apply below_drew1) | exact HB.out))) : w.heap.size ≤ gb170)); clear HB; have HB := n0_; have BK170 := n1_; have GW170 := n2_; have GE170 := n3_; clear n0_ n1_ n2_ n3_; clear hb hbox hg; have hcz19_0 : w18.cell? ⟨gb170, 0, none⟩ = some (.int .i64 0) := (blk_cell BK170.out 0).trans rfl; have hcz19_1 : w18.cell? ⟨gb170, 1, none⟩ = some (.int .i64 0) := (blk_cell BK170.out 1).trans rfl; have hcz19_2 : w18.cell? ⟨gb170, 2, none⟩ = some (.int .i64 0) := (blk_cell BK170.out 2).trans rfl; have hfz19_0 := blk_frozen BK170.out 0; have hfz19_1 := blk_frozen BK170.out 1; have hfz19_2 := blk_frozen BK170.out 2) | ((with_reducible refine gate_callee (f := 64) rfl ?_); refine goesL_ (some 42) rfl rfl Tryd.func64 (by kernel_rfl) rfl #[.agg #[.int .i64 t167, .int .i64 t168, .int .i64 t169]] rfl (by (try simp only [List.map_toArray, List.map_cons, List.map_nil]); first | done | rfl | (simp only [List.length_drop, List.length_take]; rfl)) ?_; (with_reducible refine (mask_part.calls kj3 t167 t168 t169 t171 _ A16.out).mono ?_); rintro e w20 ⟨rfl, hb⟩; refine ⟨_, rfl, ?_⟩; have n0_ := Aside0.mk (blk_below (g := gb170) (o := .cells #[.int .i64 t167, .int .i64 t168, .int .i64 t169] 71 (0, 0)) (by (with_reducible repeat (first | refine blk_drewN ?_ _ | refine blk_drew ?_ | refine blk_alloc ?_ _)); refine blk_put (cs := #[.int .i64 t167, .int .i64 t168, .int .i64 0]) ?_ 2 _ rfl; (with_reducible repeat (first | refine blk_drewN ?_ _ | refine blk_drew ?_ | refine blk_alloc ?_ _)); refine blk_put (cs := #[.int .i64 t167, .int .i64 0, .int .i64 0]) ?_ 1 _ rfl; (with_reducible repeat (first | refine blk_drewN ?_ _ | refine blk_drew ?_ | refine blk_alloc ?_ _)); refine blk_put (cs := #[.int .i64 0, .int .i64 0, .int .i64 0]) ?_ 0 _ rfl; (with_reducible repeat (first | refine blk_drewN ?_ _ | refine blk_drew ?_ | refine blk_alloc ?_ _)); exact BK170.out) hb); have n1_ := Aside0.mk (below_step (by repeat (first | (with_reducible first | exact HB.out | apply below_alloc | apply pw_below_drewN | apply below_drew1 | refine below_set ?_ GE170.out) | exact HB.out)) hb); clear BK170; clear HB; have BK170 := n0_; have HB := n1_; clear n0_ n1_; (try clear hb); (try clear hb2); (try clear hk); (try clear hi)))
     go_loopg [10, 11] kj3 (fun kq v10 v11 w' => ∃ (x10_2 : Int) (x11_2 : Int), v10 = .int .u64 x10_2 ∧ v11 = .int .i64 x11_2 ∧ Aside0 (mask_Decode.l0 kq t171 x10_2 x11_2 t167 t168 t169 = some (r1, r2)) ∧ Aside0 (kq ≤ kj3) ∧ Aside0 (w'.heap[gb170]? = some (.cells #[.int .i64 t167, .int .i64 t168, .int .i64 t169] 71 (0, 0))) ∧ Aside0 (Below w.heap.size w w'))
     case atStart => exact ⟨(0), (0), (by first | rfl | (simp; done) | (simp [*]; done)), (by first | rfl | (simp; done) | (simp [*]; done)), H', ⟨Nat.le_refl _⟩, ⟨by (with_reducible repeat (first | refine blk_drewN ?_ _ | refine blk_drew ?_ | refine blk_alloc ?_ _)); exact BK170.out⟩, ⟨by repeat (first | (with_reducible first | exact HB.out | apply below_alloc | apply pw_below_drewN | apply below_drew1 | refine below_set ?_ GE170.out) | exact HB.out)⟩⟩
     case round =>
      clear H'
      try clear c1
      try clear p2
      try clear c5
      try clear c5b0
      try clear c6
      try clear c6b0
      try clear c7
      try clear c7b0
      try clear c8
      try clear c8b0
      try clear c9
      try clear c9b0
      try clear c10
      try clear c12
      try clear c12b0
      try clear c12b1
      try clear c12b2
      try clear hcz15_0
      try clear hcz15_1
      try clear hcz15_2
      try clear hcz19_0
      try clear hcz19_1
      try clear hcz19_2
      try clear hfz15_0
      try clear hfz15_1
      try clear hfz15_2
      try clear hfz19_0
      try clear hfz19_1
      try clear hfz19_2
      try clear p2
      obtain ⟨x10_2, x11_2, rfl, rfl, HA, HK2, BK170, HB⟩ := hrel
      cases gk with
      | zero => exact absurd HA.out (by simp [mask_Decode.l0])
      | succ k2 =>
       have H := HA.out
       clear HA
       simp only [mask_Decode.l0] at H
       by_cases c21 : x11_2 < 64
       ·rw [if_pos c21] at H
        have c21b0 : decide (x11_2 < 64) = true := decide_eq_true c21
        clear c21
        by_cases c22 : 0 ≤ x11_2
        ·rw [if_pos c22] at H
         have c22b0 := eq_true c22
         have c22b1 : decide (0 ≤ x11_2) = true := decide_eq_true c22
         clear c22
         obtain ⟨ji23, hji23⟩ : ∃ j_ : Int, (shl .u64 t171 x11_2) = j_ := ⟨_, rfl⟩
         replace H : (mask_Decode.l0 k2 t171 (Go.bits .or .u64 x10_2 (ji23)) (wrap64 (x11_2 + t167)) t167 t168 t169) = some (r1, r2) := by first | (rw [hji23] at H; exact H) | (simp only [hji23] at H ⊢; exact H)
         have hji23_ : (IntKind.u64.wrap (t171 * 2 ^ min x11_2.toNat 64)) = ji23 := hji23
         have hji23z : x11_2 ≤ 64 → (IntKind.u64.wrap (t171 * 2 ^ x11_2.toNat)) = ji23 := shl_small hji23
         have H' := Aside0.mk H
         clear H
         have hcz24_0 : wr.cell? ⟨gb170, 0, none⟩ = some (.int .i64 t167) := (blk_cell BK170.out 0).trans rfl
         have hcz24_1 : wr.cell? ⟨gb170, 1, none⟩ = some (.int .i64 t168) := (blk_cell BK170.out 1).trans rfl
         have hcz24_2 : wr.cell? ⟨gb170, 2, none⟩ = some (.int .i64 t169) := (blk_cell BK170.out 2).trans rfl
         have hfz24_0 := blk_frozen BK170.out 0
         have hfz24_1 := blk_frozen BK170.out 1
         have hfz24_2 := blk_frozen BK170.out 2
         go_wp2
         go_roundg k2
         case measure => have := HJ3.out; have := HK2.out; omega
         case rel => exact ⟨(Go.bits .or .u64 x10_2 (ji23)), (wrap64 (x11_2 + t167)), (by first | rfl | (simp; done) | (simp only [← hji23] <;> (first | rfl | simp)) | (simp [*]; done)), (by first | rfl | (simp; done) | (simp [*]; done)), H', ⟨by have := HJ3.out; have := HK2.out; omega⟩, ⟨by (with_reducible repeat (first | refine blk_drewN ?_ _ | refine blk_drew ?_ | refine blk_alloc ?_ _)); exact BK170.out⟩, ⟨by repeat (first | (with_reducible first | exact HB.out | apply below_alloc | apply pw_below_drewN | apply below_drew1 | refine below_set ?_ GE170.out) | exact HB.out)⟩⟩
        ·rw [if_neg c22] at H
         exact absurd H (by simp)
       ·rw [if_neg c21] at H
        have c21b0 : decide (x11_2 < 64) = false := decide_eq_false c21
        clear c21
        simp only [Option.some.injEq, Prod.mk.injEq] at H
        obtain ⟨rfl, rfl⟩ := H
        go_wp2
        go_ret2
        exact ⟨by first | rfl | (simp [errW_none, errW_some] <;> rfl) | (simp [*, errW_none, errW_some] <;> rfl), by repeat (first | (with_reducible first | exact HB.out | apply below_alloc | apply pw_below_drewN | apply below_drew1 | refine below_set ?_ GE170.out) | exact HB.out)⟩

/-! ### code_masked: function 46 -/
/-- What panics here: a value of the type none. -/
abbrev pnc (e : Ending) : Prop := ∃ t v, e = .panicked [{ v := .iface t v, recovered := false }]
set_option maxHeartbeats 4000000 in
set_option maxRecDepth 100000 in
theorem code_masked.calls (a0 x y z : Int) (k : Nat) (v e : Int) (w : World) (hx : code_part.f a0 22 1 = some x) (hy : code_part.f a0 16 6 = some y) (hz : code_part.f a0 10 6 = some z) (h : mask_Decode.f k x y z = some (v, e)) :
    Calls Tryd.prog 46 #[.int .u32 a0] w fun en w' => (if e = 0 then en = .returned (.int .u64 v) else pnc en) ∧ Below w.heap.size w w' := by
  have HX := Aside0.mk hx
  have HY := Aside0.mk hy
  have HZ := Aside0.mk hz
  have HM := Aside0.mk h
  clear hx hy hz h
  by_cases he : e = 0
  · subst he
    go_enter Tryd.func46, Tryd.ntmps46
    go_wp2_with (fail)
    refine (code_part.calls a0 22 1 x _ HX.out).mono ?_
    rintro en w1 ⟨rfl, ⟨⟨n1, rfl⟩⟩⟩
    go_wp2_with (fail)
    refine (code_part.calls a0 16 6 y _ HY.out).mono ?_
    rintro en w1 ⟨rfl, ⟨⟨n2, rfl⟩⟩⟩
    go_wp2_with (fail)
    refine (code_part.calls a0 10 6 z _ HZ.out).mono ?_
    rintro en w1 ⟨rfl, ⟨⟨n3, rfl⟩⟩⟩
    go_wp2_with (fail)
    refine (mask_Decode.calls k x y z v 0 _ HM.out).mono ?_
    rintro en w1 ⟨rfl, hb⟩
    have HB : Aside0 (Below w.heap.size w w1) := ⟨(pw_below_drewN (Below.refl _ _) _).trans hb⟩
    clear hb
    go_wp2
    go_ret
    exact ⟨rfl, HB.out⟩
  · have c1 : (e != 0) = true := bne_iff_ne.2 he
    have HE := Aside0.mk he
    clear he
    go_enter Tryd.func46, Tryd.ntmps46
    go_wp2_with (fail)
    refine (code_part.calls a0 22 1 x _ HX.out).mono ?_
    rintro en w1 ⟨rfl, ⟨⟨n1, rfl⟩⟩⟩
    go_wp2_with (fail)
    refine (code_part.calls a0 16 6 y _ HY.out).mono ?_
    rintro en w1 ⟨rfl, ⟨⟨n2, rfl⟩⟩⟩
    go_wp2_with (fail)
    refine (code_part.calls a0 10 6 z _ HZ.out).mono ?_
    rintro en w1 ⟨rfl, ⟨⟨n3, rfl⟩⟩⟩
    go_wp2_with (fail)
    refine (mask_Decode.calls k x y z v e _ HM.out).mono ?_
    rintro en w1 ⟨rfl, hb⟩
    have HB : Aside0 (Below w.heap.size w w1) := ⟨(pw_below_drewN (Below.refl _ _) _).trans hb⟩
    clear hb
    go_wp2
    all_goals first | exact ⟨rfl, ⟨_, _, rfl⟩, HB.out⟩ | exact absurd (by assumption) HE.out

/-! ### bits_Signed: function 48 -/
def bits_Signed.j0 : Nat → Int → Int → Bool → Option (Int × Int)
 | 0, _, _, _ => none
 | k + 1, x0, x1, x12 => if x12 = true then (some (0, 1)) else (if 0 ≤ x1 then (if (shr .u32 x0 x1) = 0 then (if 0 ≤ (wrap64 (x1 - 1)) then (if (shr .u32 x0 (wrap64 (x1 - 1))) = 1 then (some (wrap64 ((wrap64 (x0)) - (shl .i64 1 x1)), 0)) else (some (wrap64 (x0), 0))) else (none)) else (some (0, 4))) else (none))
def bits_Signed.f (k : Nat) (a0 : Int) (a1 : Int) : Option (Int × Int) := if a1 < 1 then (bits_Signed.j0 k a0 a1 true) else (bits_Signed.j0 k a0 a1 (decide (a1 > 32)))
theorem bits_Signed.mono_l : ∀ k, (∀ y0 y1 y2, LeO (bits_Signed.j0 k y0 y1 y2) (bits_Signed.j0 (k + 1) y0 y1 y2))
 | 0 => fun _ _ _ r h => by simp [bits_Signed.j0] at h
 | k + 1 => by
  have ih0 := bits_Signed.mono_l k
  ·intro y0 y1 y2
   unfold bits_Signed.j0
   repeat' first
   | (with_reducible exact ih0 _ _ _)
   | (with_reducible exact LeO.refl _)
   | (with_reducible exact LeO.none _)
   | (with_reducible refine LeO.ite ?_ ?_)
   | (with_reducible refine LeO.bind ?_ (fun _ => ?_))
   | exact ih0 _ _ _
   | exact LeO.none _
   | refine LeO.ite ?_ ?_
   | refine LeO.bind ?_ (fun _ => ?_)
theorem bits_Signed.mono : ∀ a0 a1 k, LeO (bits_Signed.f k a0 a1) (bits_Signed.f (k + 1) a0 a1) := by
 intro a0 a1 k
 have ih0 := bits_Signed.mono_l k
 unfold bits_Signed.f
 repeat' first
   | (with_reducible exact ih0 _ _ _)
   | (with_reducible exact LeO.refl _)
   | (with_reducible exact LeO.none _)
   | (with_reducible refine LeO.ite ?_ ?_)
   | (with_reducible refine LeO.bind ?_ (fun _ => ?_))
   | exact ih0 _ _ _
   | exact LeO.none _
   | refine LeO.ite ?_ ?_
   | refine LeO.bind ?_ (fun _ => ?_)
set_option maxHeartbeats 8000000 in
set_option maxRecDepth 100000 in
theorem bits_Signed.calls (k : Nat) (a0 : Int) (a1 : Int) (r1 : Int) (r2 : Int) (w : World) (h : bits_Signed.f k a0 a1 = some (r1, r2)) :
  Calls Tryd.prog 48 #[.int .u32 a0, .int .i64 a1] w fun e w' => e = .returned (.tuple #[.int .i64 r1, .int .i64 r2]) ∧ Drawn0 w w' := by
 have H : (if a1 < 1 then (bits_Signed.j0 k a0 a1 true) else (bits_Signed.j0 k a0 a1 (decide (a1 > 32)))) = some (r1, r2) := h
 clear h
 have HC3 := Aside0.mk H
 clear H
 go_enter Tryd.func48, Tryd.ntmps48
 go_upto_region 1 with (fail)
 go_cut [12] (fun v12 wc => ∃ (kq : Nat) (x12_2 : Bool), v12 = .bool x12_2 ∧ Aside0 (bits_Signed.j0 kq a0 a1 x12_2 = some (r1, r2)) ∧ Aside0 (kq ≤ k) ∧ Drawn0 w wc)
 case first =>
  have H := HC3.out
  clear HC3
  by_cases c4 : a1 < 1
  ·rw [if_pos c4] at H
   have c4b0 : decide (a1 < 1) = true := decide_eq_true c4
   clear c4
   (first | rw [c4b0] | (simp only [i64_w, i32_w]; rw [c4b0]) | skip)
   have H' := Aside0.mk H
   clear H
   go_wp2
   go_meet
   case rel => exact ⟨_, (true), (by first | rfl | (simp; done) | (simp [*]; done)), H', ⟨by first | omega | exact Nat.le_refl _⟩, by repeat (first | exact Drawn0.refl _ | apply Drawn0.step)⟩
  ·rw [if_neg c4] at H
   have c4b0 : decide (a1 < 1) = false := decide_eq_false c4
   clear c4
   (first | rw [c4b0] | (simp only [i64_w, i32_w]; rw [c4b0]) | skip)
   have H' := Aside0.mk H
   clear H
   go_wp2
   go_meet
   case rel => exact ⟨_, (decide (a1 > 32)), (by first | rfl | (simp; done) | (simp [*]; done)), H', ⟨by first | omega | exact Nat.le_refl _⟩, by repeat (first | exact Drawn0.refl _ | apply Drawn0.step)⟩
 case rest =>
  clear HC3
  try clear p2
  try clear c4
  try clear c4b0
  obtain ⟨kq, x12_2, rfl, HA, HJ2, ⟨mc2, rfl⟩⟩ := hcut
  cases kq with
  | zero => exact absurd HA.out (by simp [bits_Signed.j0])
  | succ kj2 =>
   have H := HA.out
   clear HA
   simp only [bits_Signed.j0] at H
   by_cases c5 : x12_2 = true
   ·subst c5
    rw [if_pos rfl] at H
    simp only [Option.some.injEq, Prod.mk.injEq] at H
    obtain ⟨rfl, rfl⟩ := H
    go_wp2
    go_ret2
    exact ⟨by first | rfl | (simp; done) | (simp [*]; done), by repeat (first | exact Drawn0.refl _ | apply Drawn0.step)⟩
   ·replace c5 := Bool.eq_false_iff.mpr c5
    subst c5
    rw [if_neg (show ¬ (false = true) by decide)] at H
    by_cases c6 : 0 ≤ a1
    ·rw [if_pos c6] at H
     have c6b0 := eq_true c6
     have c6b1 : decide (0 ≤ a1) = true := decide_eq_true c6
     clear c6
     obtain ⟨ji7, hji7⟩ : ∃ j_ : Int, (shr .u32 a0 a1) = j_ := ⟨_, rfl⟩
     replace H : (if (ji7) = 0 then (if 0 ≤ (wrap64 (a1 - 1)) then (if (shr .u32 a0 (wrap64 (a1 - 1))) = 1 then (some (wrap64 ((wrap64 (a0)) - (shl .i64 1 a1)), 0)) else (some (wrap64 (a0), 0))) else (none)) else (some (0, 4))) = some (r1, r2) := by first | (rw [hji7] at H; exact H) | (simp only [hji7] at H ⊢; exact H)
     have hji7_ : (a0 / 2 ^ min a1.toNat 32) = ji7 := hji7
     have hji7z : a1 ≤ 32 → (a0 / 2 ^ a1.toNat) = ji7 := shr_small hji7
     by_cases c8 : (ji7) = 0
     ·rw [if_pos c8] at H
      have c8b0 : ((ji7) == 0) = true := beq_iff_eq.mpr c8
      have c8b1 : ((ji7) != 0) = false := bne_eq_false_iff_eq.mpr c8
      clear c8
      obtain ⟨ji9, hji9⟩ : ∃ j_ : Int, (wrap64 (a1 - 1)) = j_ := ⟨_, rfl⟩
      replace H : (if 0 ≤ (ji9) then (if (shr .u32 a0 (ji9)) = 1 then (some (wrap64 ((wrap64 (a0)) - (shl .i64 1 a1)), 0)) else (some (wrap64 (a0), 0))) else (none)) = some (r1, r2) := by first | (rw [hji9] at H; exact H) | (simp only [hji9] at H ⊢; exact H)
      have hji9w : (IntKind.i64.wrap (a1 - 1)) = ji9 := (i64_w _).trans hji9
      by_cases c10 : 0 ≤ (ji9)
      ·rw [if_pos c10] at H
       have c10b0 := eq_true c10
       have c10b1 : decide (0 ≤ (ji9)) = true := decide_eq_true c10
       clear c10
       obtain ⟨ji11, hji11⟩ : ∃ j_ : Int, (shr .u32 a0 (ji9)) = j_ := ⟨_, rfl⟩
       replace H : (if (ji11) = 1 then (some (wrap64 ((wrap64 (a0)) - (shl .i64 1 a1)), 0)) else (some (wrap64 (a0), 0))) = some (r1, r2) := by first | (rw [hji11] at H; exact H) | (simp only [hji11] at H ⊢; exact H)
       have hji11_ : (a0 / 2 ^ min (ji9).toNat 32) = ji11 := hji11
       have hji11z : (ji9) ≤ 32 → (a0 / 2 ^ (ji9).toNat) = ji11 := shr_small hji11
       by_cases c12 : (ji11) = 1
       ·rw [if_pos c12] at H
        have c12b0 : ((ji11) == 1) = true := beq_iff_eq.mpr c12
        have c12b1 : ((ji11) != 1) = false := bne_eq_false_iff_eq.mpr c12
        clear c12
        have c13b0 := eq_true (of_decide_eq_true (by first | (with_reducible assumption) | assumption) : 0 ≤ a1)
        obtain ⟨ji14, hji14⟩ : ∃ j_ : Int, (shl .i64 1 a1) = j_ := ⟨_, rfl⟩
        replace H : (some (wrap64 ((wrap64 (a0)) - (ji14)), 0)) = some (r1, r2) := by first | (rw [hji14] at H; exact H) | (simp only [hji14] at H ⊢; exact H)
        have hji14_ : (IntKind.i64.wrap (1 * 2 ^ min a1.toNat 64)) = ji14 := hji14
        have hji14z : a1 ≤ 64 → (IntKind.i64.wrap (1 * 2 ^ a1.toNat)) = ji14 := shl_small hji14
        have hji14u : (IntKind.i64.wrap (2 ^ min a1.toNat 64)) = ji14 := by have h_ := hji14_; rw [Int.one_mul] at h_; exact h_
        have hji14v : a1 ≤ 64 → (IntKind.i64.wrap (2 ^ a1.toNat)) = ji14 := fun hle_ => by have h_ := hji14z hle_; rw [Int.one_mul] at h_; exact h_
        have hji14y : (wrap64 (1 * 2 ^ min a1.toNat 64)) = ji14 := (i64_w _).symm.trans hji14_
        have hji14x : a1 ≤ 64 → (wrap64 (1 * 2 ^ a1.toNat)) = ji14 := fun h_ => (i64_w _).symm.trans (hji14z h_)
        simp only [Option.some.injEq, Prod.mk.injEq] at H
        obtain ⟨rfl, rfl⟩ := H
        go_wp2
        go_ret2
        exact ⟨by first | rfl | (simp; done) | (simp only [← hji7, ← hji9, ← hji11, ← hji14] <;> (first | rfl | simp)) | (simp [*]; done), by repeat (first | exact Drawn0.refl _ | apply Drawn0.step)⟩
       ·rw [if_neg c12] at H
        have c12b0 : ((ji11) == 1) = false := beq_eq_false_iff_ne.mpr c12
        have c12b1 : ((ji11) != 1) = true := bne_iff_ne.mpr c12
        simp only [Option.some.injEq, Prod.mk.injEq] at H
        obtain ⟨rfl, rfl⟩ := H
        go_wp2
        go_ret2
        exact ⟨by first | rfl | (simp; done) | (simp only [← hji7, ← hji9, ← hji11] <;> (first | rfl | simp)) | (simp [*]; done), by repeat (first | exact Drawn0.refl _ | apply Drawn0.step)⟩
      ·rw [if_neg c10] at H
       exact absurd H (by simp)
     ·rw [if_neg c8] at H
      have c8b0 : ((ji7) == 0) = false := beq_eq_false_iff_ne.mpr c8
      have c8b1 : ((ji7) != 0) = true := bne_iff_ne.mpr c8
      simp only [Option.some.injEq, Prod.mk.injEq] at H
      obtain ⟨rfl, rfl⟩ := H
      go_wp2
      go_ret2
      exact ⟨by first | rfl | (simp; done) | (simp only [← hji7] <;> (first | rfl | simp)) | (simp [*]; done), by repeat (first | exact Drawn0.refl _ | apply Drawn0.step)⟩
    ·rw [if_neg c6] at H
     exact absurd H (by simp)

end Go.Proofs.YtemenenkefcebaaDoor.P
