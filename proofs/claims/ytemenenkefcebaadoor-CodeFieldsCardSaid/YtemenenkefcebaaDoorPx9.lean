-- printed by wip/tools/myprint.py out of the translation. Not trusted: Lean checks it.
import Derived.Test.YtemenenkefcebaaDoorPx0
import Derived.Test.YtemenenkefcebaaDoorPx4
import Derived.Test.YtemenenkefcebaaDoorPx7
import Derived.Test.YtemenenkefcebaaDoorPx8
namespace Go.Proofs.YtemenenkefcebaaDoor.P
open Go.RowKit Go.Proofs.YtemenenkefcebaaDoorW.PrintWords Go.Proofs.YtemenenkefcebaaDoorW.PrintLast Go.Proofs.YtemenenkefcebaaDoorW.PrintMore
attribute [local go_sem] max2_int min2_int max_two min_two max_three min_three max_four min_four   -- for this text's walks alone
set_option linter.unusedVariables false
set_option linter.unusedSimpArgs false

/-! ### code_Decode: function 11 -/
abbrev zR : IR := ⟨0, 0, 0, 0, 0, 0, 0, 0, 0, 0⟩
abbrev isF (k : Nat) (i : IR) : Option Bool := inst_Is.f k i.op i.d i.n i.m i.a i.im i.mq i.sh i.am i.cn
def code_Decode.g (k : Nat) (u : Int) : Option (IR × Int) := (code_read.f k u).bind fun r => match r with
  | none => some (zR, 11)
  | some i => (isF k i).bind fun b => if b = true then some (i, 0) else some (zR, 11)
theorem code_Decode.monog (u : Int) (k : Nat) : LeO (code_Decode.g k u) (code_Decode.g (k + 1) u) := by
  unfold code_Decode.g
  refine LeO.bind (code_read.mono _ _) fun r => ?_
  cases r with
  | none => exact LeO.refl _
  | some i => exact LeO.bind (inst_Is.mono _ _ _ _ _ _ _ _ _ _ _) fun _ => LeO.refl _
abbrev zero10 : Array Value := #[.int .i64 0, .int .i64 0, .int .i64 0, .int .i64 0, .int .i64 0, .int .i64 0, .int .u64 0, .int .i64 0, .int .i64 0, .int .i64 0]
/-- The two result blocks of code.Decode. -/
structure DB (I : Array Value) (er : Int) (w0 w : World) : Prop where
  i : w.heap[w0.heap.size]? = some (.cells I 24)
  e : w.heap[w0.heap.size + 1]? = some (.cells #[.int .i64 er] 26)
  bel : Below w0.heap.size w0 w
theorem DB.after {I : Array Value} {er : Int} {w0 w w1 : World} (h : DB I er w0 w) (hb : Below w.heap.size w w1) : DB I er w0 w1 := ⟨blk_below h.i hb, blk_below h.e hb, h.bel.trans (hb.mono h.bel.size)⟩
theorem DB.put {v0 v1 v2 v3 v4 v5 v6 v7 v8 v9 u0 u1 u2 u3 u4 u5 u6 u7 u8 u9 : Value} {er : Int} {w0 w : World} (h : DB #[v0, v1, v2, v3, v4, v5, v6, v7, v8, v9] er w0 w) :
    DB #[u0, u1, u2, u3, u4, u5, u6, u7, u8, u9] er w0 ((((((((((w.setCell ⟨w0.heap.size, 0, none⟩ u0).setCell ⟨w0.heap.size, 1, none⟩ u1).setCell ⟨w0.heap.size, 2, none⟩ u2).setCell ⟨w0.heap.size, 3, none⟩ u3).setCell ⟨w0.heap.size, 4, none⟩ u4).setCell ⟨w0.heap.size, 5, none⟩ u5).setCell ⟨w0.heap.size, 6, none⟩ u6).setCell ⟨w0.heap.size, 7, none⟩ u7).setCell ⟨w0.heap.size, 8, none⟩ u8).setCell ⟨w0.heap.size, 9, none⟩ u9) :=
  ⟨stored10 h.i, far10 h.e (Nat.succ_ne_self _), below10 h.bel (Nat.le_refl _)⟩
theorem DB.err {I : Array Value} {er er' : Int} {w0 w : World} (h : DB I er w0 w) : DB I er' w0 (w.setCell ⟨w0.heap.size + 1, 0, none⟩ (.int .i64 er')) :=
  ⟨blk_far h.i (by simp) _, blk_set h.e 0 _, h.bel.setCell (p := ⟨w0.heap.size + 1, 0, none⟩) (Nat.le_succ _) _⟩
set_option maxHeartbeats 4000000 in
set_option maxRecDepth 100000 in
theorem dec_catch {v0 v1 v2 v3 v4 v5 v6 v7 v8 v9 : Value} {er : Int} {w0 : World} (u : TypeId) (pv : Value) (older : List PanicEntry) (w : World) (H : Aside0 (DB #[v0, v1, v2, v3, v4, v5, v6, v7, v8, v9] er w0 w)) :
    CallsD Tryd.prog 29 #[.pointer (some ⟨w0.heap.size, 0, none⟩), .pointer (some ⟨w0.heap.size + 1, 0, none⟩)] (.panicking ({ v := .iface u pv, recovered := false } :: older)) w fun e u' w' =>
      e = .returned (.tuple #[]) ∧ u' = .panicking ({ v := .iface u pv, recovered := true } :: older) ∧ DB zero10 11 w0 w' := by
  refine callsD_of_wpS Tryd.func29 rfl fun c₀ cs hu => ?_
  apply wpS_seq
  apply wpS_region
  simp [wpOpsS, go_sem, recoverD, hu, Tryd.ntmps29, Exit.thenS]
  refine wpS_cond (t := true) (by simp [Act.eval, Array.replicate]) ?_
  simp only [if_true]
  obtain ⟨c0, c1, c2, c3, c4, c5, c6, c7, c8, c9⟩ := cells10 H.out.i
  have z0 := blk_frozen H.out.i 0
  have z1 := blk_frozen H.out.i 1
  have z2 := blk_frozen H.out.i 2
  have z3 := blk_frozen H.out.i 3
  have z4 := blk_frozen H.out.i 4
  have z5 := blk_frozen H.out.i 5
  have z6 := blk_frozen H.out.i 6
  have z7 := blk_frozen H.out.i 7
  have z8 := blk_frozen H.out.i 8
  have z9 := blk_frozen H.out.i 9
  have y0 := (blk_cell H.out.e 0).trans rfl
  have y1 := blk_frozen H.out.e 0
  apply wpS_region
  simp [wpOpsS, go_sem, c0, c1, c2, c3, c4, c5, c6, c7, c8, c9, z0, z1, z2, z3, z4, z5, z6, z7, z8, z9, y0, y1, bodyPostS, results, Tryd.results29]
  exact H.out.put.err
set_option maxHeartbeats 4000000 in
theorem dec_idle (p q : Addr) (w : World) :
    CallsD Tryd.prog 29 #[.pointer (some p), .pointer (some q)] .returning w fun e u' w' => e = .returned (.tuple #[]) ∧ u' = .returning ∧ w' = w := by
  refine callsD_of_wpS Tryd.func29 rfl fun c₀ cs hu => ?_
  apply wpS_seq
  apply wpS_region
  simp [wpOpsS, go_sem, recoverD, hu, Tryd.ntmps29, Exit.thenS]
  refine wpS_cond (t := false) (by simp [Act.eval, Array.replicate]) ?_
  simp only [Bool.false_eq_true, if_false]
  refine wpS_of_wp (wp_skip ?_)
  cases c₀
  simp_all [bodyPostS, results, Tryd.results29]
set_option maxHeartbeats 4000000 in
set_option maxRecDepth 100000 in
theorem dec_fall {v0 v1 v2 v3 v4 v5 v6 v7 v8 v9 : Value} {er : Int} (w W : World) (a : Act) (t : TypeId) (v : Value) (hd : a.defers = [{ target := .fn (.func 29) #[.pointer (some ⟨w.heap.size, 0, none⟩), .pointer (some ⟨w.heap.size + 1, 0, none⟩)], args := #[] }])
    (hres : results Tryd.f11 a.tmps = results Tryd.f11 #[undef, undef, .pointer (some ⟨w.heap.size, 0, none⟩), .pointer (some ⟨w.heap.size + 1, 0, none⟩)]) (H : Aside0 (DB #[v0, v1, v2, v3, v4, v5, v6, v7, v8, v9] er w W)) :
    bodyPostD Tryd.prog Tryd.f11 (fun e w' => e = .returned (.tuple #[irV zR, .int .i64 11]) ∧ Below w.heap.size w w') (.panic [{ v := .iface t v, recovered := false }]) a W := by
  simp only [bodyPostD]
  rw [hd]
  refine leaves_cons (f := 29) (args := #[.pointer (some ⟨w.heap.size, 0, none⟩), .pointer (some ⟨w.heap.size + 1, 0, none⟩)]) (by simp) (by simp [go_sem]) ?_
  refine (dec_catch t v [] W H).mono ?_
  rintro e u' w'' ⟨rfl, rfl, H2⟩
  obtain ⟨c0, c1, c2, c3, c4, c5, c6, c7, c8, c9⟩ := cells10 H2.i
  have y0 := (blk_cell H2.e 0).trans rfl
  simp only [Leaves, settle, List.dropWhile]
  rw [hres]
  simp [Leaves, results, Tryd.results11, go_sem, c0, c1, c2, c3, c4, c5, c6, c7, c8, c9, y0]
  exact H2.bel
set_option maxHeartbeats 8000000 in
set_option maxRecDepth 100000 in
theorem code_Decode.callsg (k : Nat) (u : Int) (i : IR) (er : Int) (w : World) (h : code_Decode.g k u = some (i, er)) (HT : Aside0 (Tabs w)) :
    Calls Tryd.prog 11 #[.int .u32 u] w fun e w' => e = .returned (.tuple #[irV i, .int .i64 er]) ∧ Below w.heap.size w w' := by
  obtain ⟨r, hr, h⟩ := Option.bind_eq_some_iff.mp h
  have HR := Aside0.mk hr
  have HH := Aside0.mk h
  clear hr h
  have hmf : ∀ (fn : Fn) (first cap : Array Value) (w : World), (Instr.makeFunc fn first cap).run Tryd.prog w = .ok (.func fn first cap) w := fun _ _ _ _ => rfl
  obtain ⟨W1, hW1, HB⟩ : ∃ W1, (w.alloc (.cells zero10 24)).alloc (.cells #[.int .i64 0] 26) = W1 ∧ Aside0 (DB zero10 0 w W1) :=
    ⟨_, rfl, ⟨blk_alloc (blk_new w _) _, by simpa using blk_new (w.alloc (.cells zero10 24)) (.cells #[.int .i64 0] 26), below_alloc (below_alloc (Below.refl _ _) _) _⟩⟩
  go_enter_defers Tryd.func11, Tryd.ntmps11
  go_wp2_with (fail)
  clear hW1
  refine (code_read.calls k u r _ HR.out (tabs_of HT HB.out.bel)).mono ?_
  rintro e w1 ⟨hp, hb⟩
  replace HB := Aside0.mk (HB.out.after hb)
  clear hb
  cases r with
  | none =>
    obtain ⟨t, v, rfl⟩ := hp
    obtain ⟨rfl, rfl⟩ := Prod.mk.inj (Option.some.inj HH.out)
    go_wp2
    exact dec_fall w w1 _ _ _ rfl (by simp [results, Tryd.results11]) HB
  | some j =>
    obtain rfl : e = .returned (irV j) := hp
    obtain ⟨b, hb, hj⟩ := Option.bind_eq_some_iff.mp HH.out
    have HI := Aside0.mk hb
    have HJ := Aside0.mk hj
    clear hb hj HH
    obtain ⟨c0, c1, c2, c3, c4, c5, c6, c7, c8, c9⟩ := cells10 HB.out.i
    have z0 := blk_frozen HB.out.i 0
    have z1 := blk_frozen HB.out.i 1
    have z2 := blk_frozen HB.out.i 2
    have z3 := blk_frozen HB.out.i 3
    have z4 := blk_frozen HB.out.i 4
    have z5 := blk_frozen HB.out.i 5
    have z6 := blk_frozen HB.out.i 6
    have z7 := blk_frozen HB.out.i 7
    have z8 := blk_frozen HB.out.i 8
    have z9 := blk_frozen HB.out.i 9
    go_wp2_with (fail)
    clear c0 c1 c2 c3 c4 c5 c6 c7 c8 c9 z0 z1 z2 z3 z4 z5 z6 z7 z8 z9
    refine (inst_Is.calls k _ _ _ _ _ _ _ _ _ _ b _ HI.out (tabs_of HT HB.out.put.bel)).mono ?_
    rintro e w2 ⟨rfl, hb⟩
    replace HB := Aside0.mk (HB.out.put.after hb)
    clear hb
    cases b with
    | false =>
      obtain ⟨rfl, rfl⟩ := Prod.mk.inj (Option.some.inj (show some (zR, 11) = some (i, er) from HJ.out))
      go_wp2
      exact dec_fall w w2 _ _ _ rfl (by simp [results, Tryd.results11]) HB
    | true =>
      obtain ⟨rfl, rfl⟩ := Prod.mk.inj (Option.some.inj (show some (j, 0) = some (i, er) from HJ.out))
      clear HJ
      obtain ⟨c0, c1, c2, c3, c4, c5, c6, c7, c8, c9⟩ := cells10 HB.out.i
      have z0 := blk_frozen HB.out.i 0
      have z1 := blk_frozen HB.out.i 1
      have z2 := blk_frozen HB.out.i 2
      have z3 := blk_frozen HB.out.i 3
      have z4 := blk_frozen HB.out.i 4
      have z5 := blk_frozen HB.out.i 5
      have z6 := blk_frozen HB.out.i 6
      have z7 := blk_frozen HB.out.i 7
      have z8 := blk_frozen HB.out.i 8
      have z9 := blk_frozen HB.out.i 9
      have y0 := (blk_cell HB.out.e 0).trans rfl
      have y1 := blk_frozen HB.out.e 0
      go_wp2
      clear c0 c1 c2 c3 c4 c5 c6 c7 c8 c9 z0 z1 z2 z3 z4 z5 z6 z7 z8 z9
      clear y0 y1
      have H3 : DB #[.int .i64 j.op, .int .i64 j.d, .int .i64 j.n, .int .i64 j.m, .int .i64 j.a, .int .i64 j.im, .int .u64 j.mq, .int .i64 j.sh, .int .i64 j.am, .int .i64 j.cn] 0 w _ := HB.out.put.err
      simp only [bodyPostD]
      refine leaves_cons (f := 29) (args := #[.pointer (some ⟨w.heap.size, 0, none⟩), .pointer (some ⟨w.heap.size + 1, 0, none⟩)]) (by simp) (by simp [go_sem]) ?_
      refine (dec_idle _ _ _).mono ?_
      rintro e u' w'' ⟨rfl, rfl, rfl⟩
      obtain ⟨c0, c1, c2, c3, c4, c5, c6, c7, c8, c9⟩ := cells10 H3.i
      have y0 := (blk_cell H3.e 0).trans rfl
      have HE := Aside0.mk H3.bel
      clear H3 HB
      generalize World.setCell _ ⟨w.heap.size + 1, 0, none⟩ (Value.int .i64 0) = W9 at *
      simp [Leaves, settle, results, Tryd.results11, go_sem, c0, c1, c2, c3, c4, c5, c6, c7, c8, c9, y0]
      exact HE.out
/-- The answer, as eleven numbers. -/
def code_Decode.f (k : Nat) (u : Int) : Option (Int × Int × Int × Int × Int × Int × Int × Int × Int × Int × Int) := (code_Decode.g k u).map fun x => (x.1.op, x.1.d, x.1.n, x.1.m, x.1.a, x.1.im, x.1.mq, x.1.sh, x.1.am, x.1.cn, x.2)
theorem code_Decode.mono (u : Int) (k : Nat) : LeO (code_Decode.f k u) (code_Decode.f (k + 1) u) := by
  intro r h
  unfold code_Decode.f at h ⊢
  obtain ⟨y, hy, h⟩ := Option.map_eq_some_iff.mp h
  rw [code_Decode.monog u k y hy]
  exact congrArg some h
theorem code_Decode.calls (k : Nat) (u : Int) (r1 r2 r3 r4 r5 r6 r7 r8 r9 r10 r11 : Int) (w : World) (h : code_Decode.f k u = some (r1, r2, r3, r4, r5, r6, r7, r8, r9, r10, r11)) (HT : Aside0 (Tabs w)) :
    Calls Tryd.prog 11 #[.int .u32 u] w fun e w' => e = .returned (.tuple #[.agg #[.int .i64 r1, .int .i64 r2, .int .i64 r3, .int .i64 r4, .int .i64 r5, .int .i64 r6, .int .u64 r7, .int .i64 r8, .int .i64 r9, .int .i64 r10], .int .i64 r11]) ∧ Below w.heap.size w w' := by
  obtain ⟨⟨i, er⟩, hy, h⟩ := Option.map_eq_some_iff.mp h
  cases h
  exact code_Decode.callsg k u i er w hy HT

/-! ### cleatlaw05_coded: function 10 -/
def cleatlaw05_coded.f (k : Nat) : Option Bool := if 40 ≤ k then some true else none
theorem cleatlaw05_coded.mono : ∀ k, LeO (cleatlaw05_coded.f k) (cleatlaw05_coded.f (k + 1)) := by
  intro k r h
  unfold cleatlaw05_coded.f at h ⊢
  split at h
  · rw [if_pos (by omega)]; exact h
  · cases h
set_option maxRecDepth 100000 in
theorem coded_e1 : code_Encode.f 40 38 0 0 0 0 0 0 0 0 0 = some (3573751839, 0) := by kernel_rfl
set_option maxRecDepth 100000 in
theorem coded_e2 : code_Encode.f 120 4 1 2 0 0 3 0 0 0 0 = some (2432699457, 0) := by kernel_rfl
set_option maxRecDepth 100000 in
theorem coded_d1 : code_Decode.f 40 3596551104 = some (36, 0, 30, 0, 0, 0, 0, 0, 0, 0, 0) := by kernel_rfl
set_option maxRecDepth 100000 in
theorem coded_d2 : code_Decode.f 40 0 = some (0, 0, 0, 0, 0, 0, 0, 0, 0, 0, 11) := by kernel_rfl
set_option maxRecDepth 100000 in
theorem coded_e3 : code_Encode.f 40 0 0 0 0 0 0 0 0 0 0 = some (0, 1) := by kernel_rfl
set_option maxRecDepth 100000 in
theorem coded_o : code_Opcode.f 3573751839 = some 38 := by kernel_rfl
set_option maxHeartbeats 8000000 in
set_option maxRecDepth 100000 in
theorem cleatlaw05_coded.calls (k : Nat) (r : Bool) (w : World) (h : cleatlaw05_coded.f k = some r) (HT : Aside0 (Tabs w)) :
    Calls Tryd.prog 10 #[] w fun e w' => e = .returned (.bool r) ∧ Below w.heap.size w w' := by
  obtain rfl : true = r := by
    unfold cleatlaw05_coded.f at h
    split at h
    · exact Option.some.inj h
    · cases h
  clear h
  have E1 := Aside0.mk coded_e1
  have E2 := Aside0.mk coded_e2
  have D1 := Aside0.mk coded_d1
  have D2 := Aside0.mk coded_d2
  have E3 := Aside0.mk coded_e3
  have O1 := Aside0.mk coded_o
  have hu := Tryd.underlying24
  have hz := Tryd.zeroValue24
  go_enter Tryd.func10, Tryd.ntmps10
  go_wp2_with (fail)
  refine (code_Encode.calls 40 38 0 0 0 0 0 0 0 0 0 3573751839 0 _ E1.out HT).mono ?_
  rintro e V1 ⟨rfl, hb⟩
  have HB := Aside0.mk hb
  clear hb
  go_wp2_with (fail)
  refine (code_Encode.calls 120 4 1 2 0 0 3 0 0 0 0 2432699457 0 _ E2.out (tabs_of HT HB.out)).mono ?_
  rintro e V2 ⟨rfl, hb⟩
  replace HB := Aside0.mk (HB.out.trans (hb.mono HB.out.size))
  clear hb
  go_wp2_with (fail)
  refine (code_Decode.calls 40 3596551104 36 0 30 0 0 0 0 0 0 0 0 _ D1.out (tabs_of HT HB.out)).mono ?_
  rintro e V3 ⟨rfl, hb⟩
  replace HB := Aside0.mk (HB.out.trans (hb.mono HB.out.size))
  clear hb
  go_wp2_with (first | ((with_reducible refine gate_dst (N := 5) rfl ?_); refine box_event ?hg (N := 5) ?hd (cs := zero10) (t := 24) ?hr ?_; (case hd => rfl); (case hg => rfl); (case hr => first | (go_simp; done) | (go_simp; rfl)); intro gb hg w6 hbox hb; obtain ⟨c0, c1, c2, c3, c4, c5, c6, c7, c8, c9⟩ := cells10 hbox; have z0 := blk_frozen hbox 0; have z1 := blk_frozen hbox 1; have z2 := blk_frozen hbox 2; have z3 := blk_frozen hbox 3; have z4 := blk_frozen hbox 4; have z5 := blk_frozen hbox 5; have z6 := blk_frozen hbox 6; have z7 := blk_frozen hbox 7; have z8 := blk_frozen hbox 8; have z9 := blk_frozen hbox 9; have HBX := Aside0.mk hbox; have HGG : Aside0 (w.heap.size ≤ gb) := ⟨by rw [hg]; exact HB.out.size⟩; replace HB := Aside0.mk (HB.out.trans (hb.mono HB.out.size)); clear hbox hb hg))
  clear c0 c1 c2 c3 c4 c5 c6 c7 c8 c9 z0 z1 z2 z3 z4 z5 z6 z7 z8 z9
  refine (code_Decode.calls 40 0 0 0 0 0 0 0 0 0 0 0 11 _ D2.out (tabs_of HT (below10 HB.out HGG.out))).mono ?_
  rintro e V4 ⟨rfl, hb⟩
  have HBX2 := Aside0.mk (blk_below (stored10 HBX.out) hb)
  replace HB := Aside0.mk ((below10 HB.out HGG.out).trans (hb.mono (below10 HB.out HGG.out).size))
  clear hb HBX
  go_wp2_with (first | ((with_reducible refine gate_dst (N := 7) rfl ?_); refine box_event ?hg (N := 7) ?hd (cs := zero10) (t := 24) ?hr ?_; (case hd => rfl); (case hg => rfl); (case hr => first | (go_simp; done) | (go_simp; rfl)); intro gc hg w7 hbox hb; obtain ⟨c0, c1, c2, c3, c4, c5, c6, c7, c8, c9⟩ := cells10 hbox; have z0 := blk_frozen hbox 0; have z1 := blk_frozen hbox 1; have z2 := blk_frozen hbox 2; have z3 := blk_frozen hbox 3; have z4 := blk_frozen hbox 4; have z5 := blk_frozen hbox 5; have z6 := blk_frozen hbox 6; have z7 := blk_frozen hbox 7; have z8 := blk_frozen hbox 8; have z9 := blk_frozen hbox 9; have HGC : Aside0 (w.heap.size ≤ gc ∧ gb ≠ gc) := ⟨⟨by rw [hg]; exact HB.out.size, by rw [hg]; exact Nat.ne_of_lt (blk_lt HBX2.out)⟩⟩; have HBX3 := Aside0.mk (blk_below HBX2.out hb); replace HB := Aside0.mk (HB.out.trans (hb.mono HB.out.size)); clear hbox hb hg))
  clear c0 c1 c2 c3 c4 c5 c6 c7 c8 c9 z0 z1 z2 z3 z4 z5 z6 z7 z8 z9 HBX2
  refine (code_Encode.calls 40 0 0 0 0 0 0 0 0 0 0 0 1 _ E3.out (tabs_of HT (below10 HB.out HGC.out.1))).mono ?_
  rintro e V5 ⟨rfl, hb⟩
  obtain ⟨c0, c1, c2, c3, c4, c5, c6, c7, c8, c9⟩ := cells10 (blk_below (far10 HBX3.out HGC.out.2) hb)
  replace HB := Aside0.mk ((below10 HB.out HGC.out.1).trans (hb.mono (below10 HB.out HGC.out.1).size))
  clear hb HBX3
  go_wp2_with (fail)
  refine (code_Opcode.calls 3573751839 38 _ O1.out (tabs_of HT (HB.out))).mono ?_
  rintro e V6 ⟨rfl, hd⟩
  replace HB := Aside0.mk (HB.out.trans (hd.below.mono HB.out.size))
  clear hd c0 c1 c2 c3 c4 c5 c6 c7 c8 c9
  go_wp2
  go_ret
  exact ⟨rfl, HB.out⟩

-- NOT PRINTED: function 3 (cleatlaw05_CodeBack)

-- NOT PRINTED: function 4 (cleatlaw05_CodeWord)

-- NOT PRINTED: function 14 (cleatref05_Places)

/-! ### cleatref04_Shape: function 15 -/
def cleatref04_Shape.f (a0 : Int) : Option (Int) := (some (([0, 1, 1, 1, 2, 2, 2, 2, 3, 3, 3, 3, 4, 4, 4, 4, 5, 5, 5, 5, 6, 6, 7, 7, 8, 8, 9, 10, 10, 11, 11, 12, 9, 9, 13, 13, 13, 14, 15, 16] : List Int) : List Int)).bind fun y213 => (if a0 < 1 then (some 0) else (if a0 > 39 then (some 0) else (if 0 ≤ a0 then (if a0 < (y213.length : Int) then (some (rd y213 a0)) else (none)) else (none))))
set_option maxHeartbeats 8000000 in
set_option maxRecDepth 100000 in
theorem cleatref04_Shape.calls (a0 : Int) (r : Int) (w : World) (h : cleatref04_Shape.f a0 = some r) :
  Calls Tryd.prog 15 #[.int .i64 a0] w fun e w' => e = .returned (.int .i64 r) ∧ Below w.heap.size w w' := by
 have HB := Aside0.mk (Below.refl w.heap.size w)
 have H : ((some (([0, 1, 1, 1, 2, 2, 2, 2, 3, 3, 3, 3, 4, 4, 4, 4, 5, 5, 5, 5, 6, 6, 7, 7, 8, 8, 9, 10, 10, 11, 11, 12, 9, 9, 13, 13, 13, 14, 15, 16] : List Int) : List Int)).bind fun y213 => (if a0 < 1 then (some 0) else (if a0 > 39 then (some 0) else (if 0 ≤ a0 then (if a0 < (y213.length : Int) then (some (rd y213 a0)) else (none)) else (none))))) = some r := h
 clear h
 obtain ⟨y213, hy213⟩ : ∃ y_ : List Int, y_ = (([0, 1, 1, 1, 2, 2, 2, 2, 3, 3, 3, 3, 4, 4, 4, 4, 5, 5, 5, 5, 6, 6, 7, 7, 8, 8, 9, 10, 10, 11, 11, 12, 9, 9, 13, 13, 13, 14, 15, 16] : List Int)) := ⟨_, rfl⟩
 replace H : (if a0 < 1 then (some 0) else (if a0 > 39 then (some 0) else (if 0 ≤ a0 then (if a0 < (y213.length : Int) then (some (rd y213 a0)) else (none)) else (none)))) = some r := by first | (rw [hy213]; with_reducible exact H) | (have H2_ := (Option.bind_some _ _).symm.trans H; rw [hy213]; with_reducible exact H2_) | (have H2_ := (Option.bind_some _ _).symm.trans H; with_reducible exact H2_) | with_reducible exact H | (rw [hy213]; exact H) | exact H
 have Ny213 := Aside0.mk hy213
 clear hy213
 by_cases c2 : a0 < 1
 ·rw [if_pos c2] at H
  have c2b0 : decide (a0 < 1) = true := decide_eq_true c2
  clear c2
  obtain rfl := Option.some.inj H
  go_enter Tryd.func15, Tryd.ntmps15
  go_wp2_with (first | ((with_reducible refine gate_dst (N := 4) rfl ?_); refine Kd.R_lit (Kd.int .i64) _ 3 ?hg (N := 4) ?hd (xs := ([0, 1, 1, 1, 2, 2, 2, 2, 3, 3, 3, 3, 4, 4, 4, 4, 5, 5, 5, 5, 6, 6, 7, 7, 8, 8, 9, 10, 10, 11, 11, 12, 9, 9, 13, 13, 13, 14, 15, 16] : List Int)) (inner := [.int .i64 0, .int .i64 1, .int .i64 1, .int .i64 1, .int .i64 2, .int .i64 2, .int .i64 2, .int .i64 2, .int .i64 3, .int .i64 3, .int .i64 3, .int .i64 3, .int .i64 4, .int .i64 4, .int .i64 4, .int .i64 4, .int .i64 5, .int .i64 5, .int .i64 5, .int .i64 5, .int .i64 6, .int .i64 6, .int .i64 7, .int .i64 7, .int .i64 8, .int .i64 8, .int .i64 9, .int .i64 10, .int .i64 10, .int .i64 11, .int .i64 11, .int .i64 12, .int .i64 9, .int .i64 9, .int .i64 13, .int .i64 13, .int .i64 13, .int .i64 14, .int .i64 15, .int .i64 16]) (ok := fun _ => True) (okp := fun _ => True) ?hr ?hp (fun _ hk => hk) trivial (Below.refl _ _) (Nat.le_refl _) (by simp) ?_; (case hd => rfl); (case hg => rfl); (case hr => first | (go_simp; done) | (go_simp; rfl)); (case hp => exact (Reps.one (show Kd.M (Kd.int .i64) _ _ _ 0 [.int .i64 0] from rfl) (Reps.one (show Kd.M (Kd.int .i64) _ _ _ 1 [.int .i64 1] from rfl) (Reps.one (show Kd.M (Kd.int .i64) _ _ _ 1 [.int .i64 1] from rfl) (Reps.one (show Kd.M (Kd.int .i64) _ _ _ 1 [.int .i64 1] from rfl) (Reps.one (show Kd.M (Kd.int .i64) _ _ _ 2 [.int .i64 2] from rfl) (Reps.one (show Kd.M (Kd.int .i64) _ _ _ 2 [.int .i64 2] from rfl) (Reps.one (show Kd.M (Kd.int .i64) _ _ _ 2 [.int .i64 2] from rfl) (Reps.one (show Kd.M (Kd.int .i64) _ _ _ 2 [.int .i64 2] from rfl) (Reps.one (show Kd.M (Kd.int .i64) _ _ _ 3 [.int .i64 3] from rfl) (Reps.one (show Kd.M (Kd.int .i64) _ _ _ 3 [.int .i64 3] from rfl) (Reps.one (show Kd.M (Kd.int .i64) _ _ _ 3 [.int .i64 3] from rfl) (Reps.one (show Kd.M (Kd.int .i64) _ _ _ 3 [.int .i64 3] from rfl) (Reps.one (show Kd.M (Kd.int .i64) _ _ _ 4 [.int .i64 4] from rfl) (Reps.one (show Kd.M (Kd.int .i64) _ _ _ 4 [.int .i64 4] from rfl) (Reps.one (show Kd.M (Kd.int .i64) _ _ _ 4 [.int .i64 4] from rfl) (Reps.one (show Kd.M (Kd.int .i64) _ _ _ 4 [.int .i64 4] from rfl) (Reps.one (show Kd.M (Kd.int .i64) _ _ _ 5 [.int .i64 5] from rfl) (Reps.one (show Kd.M (Kd.int .i64) _ _ _ 5 [.int .i64 5] from rfl) (Reps.one (show Kd.M (Kd.int .i64) _ _ _ 5 [.int .i64 5] from rfl) (Reps.one (show Kd.M (Kd.int .i64) _ _ _ 5 [.int .i64 5] from rfl) (Reps.one (show Kd.M (Kd.int .i64) _ _ _ 6 [.int .i64 6] from rfl) (Reps.one (show Kd.M (Kd.int .i64) _ _ _ 6 [.int .i64 6] from rfl) (Reps.one (show Kd.M (Kd.int .i64) _ _ _ 7 [.int .i64 7] from rfl) (Reps.one (show Kd.M (Kd.int .i64) _ _ _ 7 [.int .i64 7] from rfl) (Reps.one (show Kd.M (Kd.int .i64) _ _ _ 8 [.int .i64 8] from rfl) (Reps.one (show Kd.M (Kd.int .i64) _ _ _ 8 [.int .i64 8] from rfl) (Reps.one (show Kd.M (Kd.int .i64) _ _ _ 9 [.int .i64 9] from rfl) (Reps.one (show Kd.M (Kd.int .i64) _ _ _ 10 [.int .i64 10] from rfl) (Reps.one (show Kd.M (Kd.int .i64) _ _ _ 10 [.int .i64 10] from rfl) (Reps.one (show Kd.M (Kd.int .i64) _ _ _ 11 [.int .i64 11] from rfl) (Reps.one (show Kd.M (Kd.int .i64) _ _ _ 11 [.int .i64 11] from rfl) (Reps.one (show Kd.M (Kd.int .i64) _ _ _ 12 [.int .i64 12] from rfl) (Reps.one (show Kd.M (Kd.int .i64) _ _ _ 9 [.int .i64 9] from rfl) (Reps.one (show Kd.M (Kd.int .i64) _ _ _ 9 [.int .i64 9] from rfl) (Reps.one (show Kd.M (Kd.int .i64) _ _ _ 13 [.int .i64 13] from rfl) (Reps.one (show Kd.M (Kd.int .i64) _ _ _ 13 [.int .i64 13] from rfl) (Reps.one (show Kd.M (Kd.int .i64) _ _ _ 13 [.int .i64 13] from rfl) (Reps.one (show Kd.M (Kd.int .i64) _ _ _ 14 [.int .i64 14] from rfl) (Reps.one (show Kd.M (Kd.int .i64) _ _ _ 15 [.int .i64 15] from rfl) (Reps.one (show Kd.M (Kd.int .i64) _ _ _ 16 [.int .i64 16] from rfl) (Reps.none _ _)))))))))))))))))))))))))))))))))))))))))); intro v214 w3 ho4 hb hg_ hnew_; clear hg_ hnew_; (first | rw [← Ny213.out] at ho4 | (simp only [Int.reduceToNat] at ho4; rw [← Ny213.out] at ho4)); have n0_ := Aside0.mk (Kd.R_lower ho4 (below_size (by repeat (first | (with_reducible first | exact HB.out | apply below_alloc | apply pw_below_drewN | apply below_drew1) | exact HB.out)))); have n1_ := Aside0.mk (below_step (by repeat (first | (with_reducible first | exact HB.out | apply below_alloc | apply pw_below_drewN | apply below_drew1) | exact HB.out)) hb); clear HB; have HO215 := n0_; have HB := n1_; clear n0_ n1_; clear hb ho4))
  go_ret
  exact ⟨by first | rfl | (simp [errW_none, errW_some] <;> rfl) | (simp [*, errW_none, errW_some] <;> rfl), by repeat (first | (with_reducible first | exact HB.out | apply below_alloc | apply pw_below_drewN | apply below_drew1) | exact HB.out)⟩
 ·rw [if_neg c2] at H
  have c2b0 : decide (a0 < 1) = false := decide_eq_false c2
  clear c2
  by_cases c5 : a0 > 39
  ·rw [if_pos c5] at H
   have c5b0 : decide (39 < a0) = true := decide_eq_true c5
   clear c5
   obtain rfl := Option.some.inj H
   go_enter Tryd.func15, Tryd.ntmps15
   go_wp2_with (first | ((with_reducible refine gate_dst (N := 4) rfl ?_); refine Kd.R_lit (Kd.int .i64) _ 3 ?hg (N := 4) ?hd (xs := ([0, 1, 1, 1, 2, 2, 2, 2, 3, 3, 3, 3, 4, 4, 4, 4, 5, 5, 5, 5, 6, 6, 7, 7, 8, 8, 9, 10, 10, 11, 11, 12, 9, 9, 13, 13, 13, 14, 15, 16] : List Int)) (inner := [.int .i64 0, .int .i64 1, .int .i64 1, .int .i64 1, .int .i64 2, .int .i64 2, .int .i64 2, .int .i64 2, .int .i64 3, .int .i64 3, .int .i64 3, .int .i64 3, .int .i64 4, .int .i64 4, .int .i64 4, .int .i64 4, .int .i64 5, .int .i64 5, .int .i64 5, .int .i64 5, .int .i64 6, .int .i64 6, .int .i64 7, .int .i64 7, .int .i64 8, .int .i64 8, .int .i64 9, .int .i64 10, .int .i64 10, .int .i64 11, .int .i64 11, .int .i64 12, .int .i64 9, .int .i64 9, .int .i64 13, .int .i64 13, .int .i64 13, .int .i64 14, .int .i64 15, .int .i64 16]) (ok := fun _ => True) (okp := fun _ => True) ?hr ?hp (fun _ hk => hk) trivial (Below.refl _ _) (Nat.le_refl _) (by simp) ?_; (case hd => rfl); (case hg => rfl); (case hr => first | (go_simp; done) | (go_simp; rfl)); (case hp => exact (Reps.one (show Kd.M (Kd.int .i64) _ _ _ 0 [.int .i64 0] from rfl) (Reps.one (show Kd.M (Kd.int .i64) _ _ _ 1 [.int .i64 1] from rfl) (Reps.one (show Kd.M (Kd.int .i64) _ _ _ 1 [.int .i64 1] from rfl) (Reps.one (show Kd.M (Kd.int .i64) _ _ _ 1 [.int .i64 1] from rfl) (Reps.one (show Kd.M (Kd.int .i64) _ _ _ 2 [.int .i64 2] from rfl) (Reps.one (show Kd.M (Kd.int .i64) _ _ _ 2 [.int .i64 2] from rfl) (Reps.one (show Kd.M (Kd.int .i64) _ _ _ 2 [.int .i64 2] from rfl) (Reps.one (show Kd.M (Kd.int .i64) _ _ _ 2 [.int .i64 2] from rfl) (Reps.one (show Kd.M (Kd.int .i64) _ _ _ 3 [.int .i64 3] from rfl) (Reps.one (show Kd.M (Kd.int .i64) _ _ _ 3 [.int .i64 3] from rfl) (Reps.one (show Kd.M (Kd.int .i64) _ _ _ 3 [.int .i64 3] from rfl) (Reps.one (show Kd.M (Kd.int .i64) _ _ _ 3 [.int .i64 3] from rfl) (Reps.one (show Kd.M (Kd.int .i64) _ _ _ 4 [.int .i64 4] from rfl) (Reps.one (show Kd.M (Kd.int .i64) _ _ _ 4 [.int .i64 4] from rfl) (Reps.one (show Kd.M (Kd.int .i64) _ _ _ 4 [.int .i64 4] from rfl) (Reps.one (show Kd.M (Kd.int .i64) _ _ _ 4 [.int .i64 4] from rfl) (Reps.one (show Kd.M (Kd.int .i64) _ _ _ 5 [.int .i64 5] from rfl) (Reps.one (show Kd.M (Kd.int .i64) _ _ _ 5 [.int .i64 5] from rfl) (Reps.one (show Kd.M (Kd.int .i64) _ _ _ 5 [.int .i64 5] from rfl) (Reps.one (show Kd.M (Kd.int .i64) _ _ _ 5 [.int .i64 5] from rfl) (Reps.one (show Kd.M (Kd.int .i64) _ _ _ 6 [.int .i64 6] from rfl) (Reps.one (show Kd.M (Kd.int .i64) _ _ _ 6 [.int .i64 6] from rfl) (Reps.one (show Kd.M (Kd.int .i64) _ _ _ 7 [.int .i64 7] from rfl) (Reps.one (show Kd.M (Kd.int .i64) _ _ _ 7 [.int .i64 7] from rfl) (Reps.one (show Kd.M (Kd.int .i64) _ _ _ 8 [.int .i64 8] from rfl) (Reps.one (show Kd.M (Kd.int .i64) _ _ _ 8 [.int .i64 8] from rfl) (Reps.one (show Kd.M (Kd.int .i64) _ _ _ 9 [.int .i64 9] from rfl) (Reps.one (show Kd.M (Kd.int .i64) _ _ _ 10 [.int .i64 10] from rfl) (Reps.one (show Kd.M (Kd.int .i64) _ _ _ 10 [.int .i64 10] from rfl) (Reps.one (show Kd.M (Kd.int .i64) _ _ _ 11 [.int .i64 11] from rfl) (Reps.one (show Kd.M (Kd.int .i64) _ _ _ 11 [.int .i64 11] from rfl) (Reps.one (show Kd.M (Kd.int .i64) _ _ _ 12 [.int .i64 12] from rfl) (Reps.one (show Kd.M (Kd.int .i64) _ _ _ 9 [.int .i64 9] from rfl) (Reps.one (show Kd.M (Kd.int .i64) _ _ _ 9 [.int .i64 9] from rfl) (Reps.one (show Kd.M (Kd.int .i64) _ _ _ 13 [.int .i64 13] from rfl) (Reps.one (show Kd.M (Kd.int .i64) _ _ _ 13 [.int .i64 13] from rfl) (Reps.one (show Kd.M (Kd.int .i64) _ _ _ 13 [.int .i64 13] from rfl) (Reps.one (show Kd.M (Kd.int .i64) _ _ _ 14 [.int .i64 14] from rfl) (Reps.one (show Kd.M (Kd.int .i64) _ _ _ 15 [.int .i64 15] from rfl) (Reps.one (show Kd.M (Kd.int .i64) _ _ _ 16 [.int .i64 16] from rfl) (Reps.none _ _)))))))))))))))))))))))))))))))))))))))))); intro v214 w6 ho7 hb hg_ hnew_; clear hg_ hnew_; (first | rw [← Ny213.out] at ho7 | (simp only [Int.reduceToNat] at ho7; rw [← Ny213.out] at ho7)); have n0_ := Aside0.mk (Kd.R_lower ho7 (below_size (by repeat (first | (with_reducible first | exact HB.out | apply below_alloc | apply pw_below_drewN | apply below_drew1) | exact HB.out)))); have n1_ := Aside0.mk (below_step (by repeat (first | (with_reducible first | exact HB.out | apply below_alloc | apply pw_below_drewN | apply below_drew1) | exact HB.out)) hb); clear HB; have HO215 := n0_; have HB := n1_; clear n0_ n1_; clear hb ho7))
   go_ret
   exact ⟨by first | rfl | (simp [errW_none, errW_some] <;> rfl) | (simp [*, errW_none, errW_some] <;> rfl), by repeat (first | (with_reducible first | exact HB.out | apply below_alloc | apply pw_below_drewN | apply below_drew1) | exact HB.out)⟩
  ·rw [if_neg c5] at H
   have c5b0 : decide (39 < a0) = false := decide_eq_false c5
   clear c5
   by_cases c8 : 0 ≤ a0
   ·rw [if_pos c8] at H
    have c8b0 : decide (0 ≤ a0) = true := decide_eq_true c8
    clear c8
    by_cases c9 : a0 < (y213.length : Int)
    ·rw [if_pos c9] at H
     have c9b0 : decide (a0 < (y213.length : Int)) = true := decide_eq_true c9
     clear c9
     obtain rfl := Option.some.inj H
     go_enter Tryd.func15, Tryd.ntmps15
     go_wp2_with (first | ((with_reducible refine gate_dst (N := 4) rfl ?_); refine Kd.R_lit (Kd.int .i64) _ 3 ?hg (N := 4) ?hd (xs := ([0, 1, 1, 1, 2, 2, 2, 2, 3, 3, 3, 3, 4, 4, 4, 4, 5, 5, 5, 5, 6, 6, 7, 7, 8, 8, 9, 10, 10, 11, 11, 12, 9, 9, 13, 13, 13, 14, 15, 16] : List Int)) (inner := [.int .i64 0, .int .i64 1, .int .i64 1, .int .i64 1, .int .i64 2, .int .i64 2, .int .i64 2, .int .i64 2, .int .i64 3, .int .i64 3, .int .i64 3, .int .i64 3, .int .i64 4, .int .i64 4, .int .i64 4, .int .i64 4, .int .i64 5, .int .i64 5, .int .i64 5, .int .i64 5, .int .i64 6, .int .i64 6, .int .i64 7, .int .i64 7, .int .i64 8, .int .i64 8, .int .i64 9, .int .i64 10, .int .i64 10, .int .i64 11, .int .i64 11, .int .i64 12, .int .i64 9, .int .i64 9, .int .i64 13, .int .i64 13, .int .i64 13, .int .i64 14, .int .i64 15, .int .i64 16]) (ok := fun _ => True) (okp := fun _ => True) ?hr ?hp (fun _ hk => hk) trivial (Below.refl _ _) (Nat.le_refl _) (by simp) ?_; (case hd => rfl); (case hg => rfl); (case hr => first | (go_simp; done) | (go_simp; rfl)); (case hp => exact (Reps.one (show Kd.M (Kd.int .i64) _ _ _ 0 [.int .i64 0] from rfl) (Reps.one (show Kd.M (Kd.int .i64) _ _ _ 1 [.int .i64 1] from rfl) (Reps.one (show Kd.M (Kd.int .i64) _ _ _ 1 [.int .i64 1] from rfl) (Reps.one (show Kd.M (Kd.int .i64) _ _ _ 1 [.int .i64 1] from rfl) (Reps.one (show Kd.M (Kd.int .i64) _ _ _ 2 [.int .i64 2] from rfl) (Reps.one (show Kd.M (Kd.int .i64) _ _ _ 2 [.int .i64 2] from rfl) (Reps.one (show Kd.M (Kd.int .i64) _ _ _ 2 [.int .i64 2] from rfl) (Reps.one (show Kd.M (Kd.int .i64) _ _ _ 2 [.int .i64 2] from rfl) (Reps.one (show Kd.M (Kd.int .i64) _ _ _ 3 [.int .i64 3] from rfl) (Reps.one (show Kd.M (Kd.int .i64) _ _ _ 3 [.int .i64 3] from rfl) (Reps.one (show Kd.M (Kd.int .i64) _ _ _ 3 [.int .i64 3] from rfl) (Reps.one (show Kd.M (Kd.int .i64) _ _ _ 3 [.int .i64 3] from rfl) (Reps.one (show Kd.M (Kd.int .i64) _ _ _ 4 [.int .i64 4] from rfl) (Reps.one (show Kd.M (Kd.int .i64) _ _ _ 4 [.int .i64 4] from rfl) (Reps.one (show Kd.M (Kd.int .i64) _ _ _ 4 [.int .i64 4] from rfl) (Reps.one (show Kd.M (Kd.int .i64) _ _ _ 4 [.int .i64 4] from rfl) (Reps.one (show Kd.M (Kd.int .i64) _ _ _ 5 [.int .i64 5] from rfl) (Reps.one (show Kd.M (Kd.int .i64) _ _ _ 5 [.int .i64 5] from rfl) (Reps.one (show Kd.M (Kd.int .i64) _ _ _ 5 [.int .i64 5] from rfl) (Reps.one (show Kd.M (Kd.int .i64) _ _ _ 5 [.int .i64 5] from rfl) (Reps.one (show Kd.M (Kd.int .i64) _ _ _ 6 [.int .i64 6] from rfl) (Reps.one (show Kd.M (Kd.int .i64) _ _ _ 6 [.int .i64 6] from rfl) (Reps.one (show Kd.M (Kd.int .i64) _ _ _ 7 [.int .i64 7] from rfl) (Reps.one (show Kd.M (Kd.int .i64) _ _ _ 7 [.int .i64 7] from rfl) (Reps.one (show Kd.M (Kd.int .i64) _ _ _ 8 [.int .i64 8] from rfl) (Reps.one (show Kd.M (Kd.int .i64) _ _ _ 8 [.int .i64 8] from rfl) (Reps.one (show Kd.M (Kd.int .i64) _ _ _ 9 [.int .i64 9] from rfl) (Reps.one (show Kd.M (Kd.int .i64) _ _ _ 10 [.int .i64 10] from rfl) (Reps.one (show Kd.M (Kd.int .i64) _ _ _ 10 [.int .i64 10] from rfl) (Reps.one (show Kd.M (Kd.int .i64) _ _ _ 11 [.int .i64 11] from rfl) (Reps.one (show Kd.M (Kd.int .i64) _ _ _ 11 [.int .i64 11] from rfl) (Reps.one (show Kd.M (Kd.int .i64) _ _ _ 12 [.int .i64 12] from rfl) (Reps.one (show Kd.M (Kd.int .i64) _ _ _ 9 [.int .i64 9] from rfl) (Reps.one (show Kd.M (Kd.int .i64) _ _ _ 9 [.int .i64 9] from rfl) (Reps.one (show Kd.M (Kd.int .i64) _ _ _ 13 [.int .i64 13] from rfl) (Reps.one (show Kd.M (Kd.int .i64) _ _ _ 13 [.int .i64 13] from rfl) (Reps.one (show Kd.M (Kd.int .i64) _ _ _ 13 [.int .i64 13] from rfl) (Reps.one (show Kd.M (Kd.int .i64) _ _ _ 14 [.int .i64 14] from rfl) (Reps.one (show Kd.M (Kd.int .i64) _ _ _ 15 [.int .i64 15] from rfl) (Reps.one (show Kd.M (Kd.int .i64) _ _ _ 16 [.int .i64 16] from rfl) (Reps.none _ _)))))))))))))))))))))))))))))))))))))))))); intro v214 w10 ho11 hb hg_ hnew_; clear hg_ hnew_; (first | rw [← Ny213.out] at ho11 | (simp only [Int.reduceToNat] at ho11; rw [← Ny213.out] at ho11)); have n0_ := Aside0.mk (Kd.R_lower ho11 (below_size (by repeat (first | (with_reducible first | exact HB.out | apply below_alloc | apply pw_below_drewN | apply below_drew1) | exact HB.out)))); have n1_ := Aside0.mk (below_step (by repeat (first | (with_reducible first | exact HB.out | apply below_alloc | apply pw_below_drewN | apply below_drew1) | exact HB.out)) hb); clear HB; have HO215 := n0_; have HB := n1_; clear n0_ n1_; clear hb ho11; obtain ⟨Ao12, co12, eo12⟩ := Kd.R_slice HO215.out; subst eo12; have p216 : 0 ≤ (a0 : Int) := of_decide_eq_true (by first | (with_reducible assumption) | assumption); have q216 : a0 < (y213.length : Int) := of_decide_eq_true (by first | (with_reducible assumption) | assumption); obtain ⟨ad216, e216, hx216_0⟩ := Kd.at_int (Kd.R_reads' HO215.out).2.2 a0 p216 q216; cases e216; replace p216 := eq_true p216; replace q216 := eq_true q216))
     go_ret
     exact ⟨by first | rfl | (simp [errW_none, errW_some] <;> rfl) | (simp [*, errW_none, errW_some] <;> rfl), by repeat (first | (with_reducible first | exact HB.out | apply below_alloc | apply pw_below_drewN | apply below_drew1) | exact HB.out)⟩
    ·rw [if_neg c9] at H
     exact absurd H (by simp)
   ·rw [if_neg c8] at H
    exact absurd H (by simp)

-- NOT PRINTED: function 5 (cleatlaw05_CodeBit)

-- NOT PRINTED: function 6 (cleatlaw05_CodeFields)

/-! ### cleatref05_bases: function 37 -/
def cleatref05_bases.f  : Option (List Int) := some (([0, 3531603968, 2457862144, 4068474880, 2432696320, 3506438144, 2969567232, 4043309056, 2449473536, 2986344448, 3523215360, 4060086272, 2332033024, 3405774848, 2868903936, 3942645760, 2315255808, 2852126720, 3388997632, 3925868544, 2600468480, 2600501248, 4181721088, 4177526784, 960495616, 956301312, 1476395008, 268435456, 2415919104, 335544320, 2483027968, 1409286144, 3019898880, 3036676096, 3592355840, 3594452992, 3596550144, 3556769793, 3573751839, 2592079872] : List Int))
set_option maxHeartbeats 8000000 in
set_option maxRecDepth 100000 in
theorem cleatref05_bases.calls  (r : List Int) (w : World) (h : cleatref05_bases.f  = some r) :
  Calls Tryd.prog 37 #[] w fun e w' => ∃ v0_ : Value, e = .returned (v0_) ∧ Kd.R (Kd.int .u32) 25 w' w.heap.size (fun _ => True) v0_ r ∧ Below w.heap.size w w' := by
 have HB := Aside0.mk (Below.refl w.heap.size w)
 have H : (some (([0, 3531603968, 2457862144, 4068474880, 2432696320, 3506438144, 2969567232, 4043309056, 2449473536, 2986344448, 3523215360, 4060086272, 2332033024, 3405774848, 2868903936, 3942645760, 2315255808, 2852126720, 3388997632, 3925868544, 2600468480, 2600501248, 4181721088, 4177526784, 960495616, 956301312, 1476395008, 268435456, 2415919104, 335544320, 2483027968, 1409286144, 3019898880, 3036676096, 3592355840, 3594452992, 3596550144, 3556769793, 3573751839, 2592079872] : List Int))) = some r := h
 clear h
 obtain ⟨y251, hy251⟩ : ∃ y_ : List Int, y_ = (([0, 3531603968, 2457862144, 4068474880, 2432696320, 3506438144, 2969567232, 4043309056, 2449473536, 2986344448, 3523215360, 4060086272, 2332033024, 3405774848, 2868903936, 3942645760, 2315255808, 2852126720, 3388997632, 3925868544, 2600468480, 2600501248, 4181721088, 4177526784, 960495616, 956301312, 1476395008, 268435456, 2415919104, 335544320, 2483027968, 1409286144, 3019898880, 3036676096, 3592355840, 3594452992, 3596550144, 3556769793, 3573751839, 2592079872] : List Int)) := ⟨_, rfl⟩
 replace H : (some y251) = some r := by first | (rw [hy251]; with_reducible exact H) | (have H2_ := (Option.bind_some _ _).symm.trans H; rw [hy251]; with_reducible exact H2_) | (have H2_ := (Option.bind_some _ _).symm.trans H; with_reducible exact H2_) | with_reducible exact H | (rw [hy251]; exact H) | exact H
 have Ny251 := Aside0.mk hy251
 clear hy251
 obtain rfl := Option.some.inj H
 go_enter Tryd.func37, Tryd.ntmps37
 go_wp2_with (first | ((with_reducible refine gate_dst (N := 1) rfl ?_); refine Kd.R_lit (Kd.int .u32) _ 25 ?hg (N := 1) ?hd (xs := ([0, 3531603968, 2457862144, 4068474880, 2432696320, 3506438144, 2969567232, 4043309056, 2449473536, 2986344448, 3523215360, 4060086272, 2332033024, 3405774848, 2868903936, 3942645760, 2315255808, 2852126720, 3388997632, 3925868544, 2600468480, 2600501248, 4181721088, 4177526784, 960495616, 956301312, 1476395008, 268435456, 2415919104, 335544320, 2483027968, 1409286144, 3019898880, 3036676096, 3592355840, 3594452992, 3596550144, 3556769793, 3573751839, 2592079872] : List Int)) (inner := [.int .u32 0, .int .u32 3531603968, .int .u32 2457862144, .int .u32 4068474880, .int .u32 2432696320, .int .u32 3506438144, .int .u32 2969567232, .int .u32 4043309056, .int .u32 2449473536, .int .u32 2986344448, .int .u32 3523215360, .int .u32 4060086272, .int .u32 2332033024, .int .u32 3405774848, .int .u32 2868903936, .int .u32 3942645760, .int .u32 2315255808, .int .u32 2852126720, .int .u32 3388997632, .int .u32 3925868544, .int .u32 2600468480, .int .u32 2600501248, .int .u32 4181721088, .int .u32 4177526784, .int .u32 960495616, .int .u32 956301312, .int .u32 1476395008, .int .u32 268435456, .int .u32 2415919104, .int .u32 335544320, .int .u32 2483027968, .int .u32 1409286144, .int .u32 3019898880, .int .u32 3036676096, .int .u32 3592355840, .int .u32 3594452992, .int .u32 3596550144, .int .u32 3556769793, .int .u32 3573751839, .int .u32 2592079872]) (ok := fun _ => True) (okp := fun _ => True) ?hr ?hp (fun _ hk => hk) trivial (Below.refl _ _) (Nat.le_refl _) (by simp) ?_; (case hd => rfl); (case hg => rfl); (case hr => first | (go_simp; done) | (go_simp; rfl)); (case hp => exact (Reps.one (show Kd.M (Kd.int .u32) _ _ _ 0 [.int .u32 0] from rfl) (Reps.one (show Kd.M (Kd.int .u32) _ _ _ 3531603968 [.int .u32 3531603968] from rfl) (Reps.one (show Kd.M (Kd.int .u32) _ _ _ 2457862144 [.int .u32 2457862144] from rfl) (Reps.one (show Kd.M (Kd.int .u32) _ _ _ 4068474880 [.int .u32 4068474880] from rfl) (Reps.one (show Kd.M (Kd.int .u32) _ _ _ 2432696320 [.int .u32 2432696320] from rfl) (Reps.one (show Kd.M (Kd.int .u32) _ _ _ 3506438144 [.int .u32 3506438144] from rfl) (Reps.one (show Kd.M (Kd.int .u32) _ _ _ 2969567232 [.int .u32 2969567232] from rfl) (Reps.one (show Kd.M (Kd.int .u32) _ _ _ 4043309056 [.int .u32 4043309056] from rfl) (Reps.one (show Kd.M (Kd.int .u32) _ _ _ 2449473536 [.int .u32 2449473536] from rfl) (Reps.one (show Kd.M (Kd.int .u32) _ _ _ 2986344448 [.int .u32 2986344448] from rfl) (Reps.one (show Kd.M (Kd.int .u32) _ _ _ 3523215360 [.int .u32 3523215360] from rfl) (Reps.one (show Kd.M (Kd.int .u32) _ _ _ 4060086272 [.int .u32 4060086272] from rfl) (Reps.one (show Kd.M (Kd.int .u32) _ _ _ 2332033024 [.int .u32 2332033024] from rfl) (Reps.one (show Kd.M (Kd.int .u32) _ _ _ 3405774848 [.int .u32 3405774848] from rfl) (Reps.one (show Kd.M (Kd.int .u32) _ _ _ 2868903936 [.int .u32 2868903936] from rfl) (Reps.one (show Kd.M (Kd.int .u32) _ _ _ 3942645760 [.int .u32 3942645760] from rfl) (Reps.one (show Kd.M (Kd.int .u32) _ _ _ 2315255808 [.int .u32 2315255808] from rfl) (Reps.one (show Kd.M (Kd.int .u32) _ _ _ 2852126720 [.int .u32 2852126720] from rfl) (Reps.one (show Kd.M (Kd.int .u32) _ _ _ 3388997632 [.int .u32 3388997632] from rfl) (Reps.one (show Kd.M (Kd.int .u32) _ _ _ 3925868544 [.int .u32 3925868544] from rfl) (Reps.one (show Kd.M (Kd.int .u32) _ _ _ 2600468480 [.int .u32 2600468480] from rfl) (Reps.one (show Kd.M (Kd.int .u32) _ _ _ 2600501248 [.int .u32 2600501248] from rfl) (Reps.one (show Kd.M (Kd.int .u32) _ _ _ 4181721088 [.int .u32 4181721088] from rfl) (Reps.one (show Kd.M (Kd.int .u32) _ _ _ 4177526784 [.int .u32 4177526784] from rfl) (Reps.one (show Kd.M (Kd.int .u32) _ _ _ 960495616 [.int .u32 960495616] from rfl) (Reps.one (show Kd.M (Kd.int .u32) _ _ _ 956301312 [.int .u32 956301312] from rfl) (Reps.one (show Kd.M (Kd.int .u32) _ _ _ 1476395008 [.int .u32 1476395008] from rfl) (Reps.one (show Kd.M (Kd.int .u32) _ _ _ 268435456 [.int .u32 268435456] from rfl) (Reps.one (show Kd.M (Kd.int .u32) _ _ _ 2415919104 [.int .u32 2415919104] from rfl) (Reps.one (show Kd.M (Kd.int .u32) _ _ _ 335544320 [.int .u32 335544320] from rfl) (Reps.one (show Kd.M (Kd.int .u32) _ _ _ 2483027968 [.int .u32 2483027968] from rfl) (Reps.one (show Kd.M (Kd.int .u32) _ _ _ 1409286144 [.int .u32 1409286144] from rfl) (Reps.one (show Kd.M (Kd.int .u32) _ _ _ 3019898880 [.int .u32 3019898880] from rfl) (Reps.one (show Kd.M (Kd.int .u32) _ _ _ 3036676096 [.int .u32 3036676096] from rfl) (Reps.one (show Kd.M (Kd.int .u32) _ _ _ 3592355840 [.int .u32 3592355840] from rfl) (Reps.one (show Kd.M (Kd.int .u32) _ _ _ 3594452992 [.int .u32 3594452992] from rfl) (Reps.one (show Kd.M (Kd.int .u32) _ _ _ 3596550144 [.int .u32 3596550144] from rfl) (Reps.one (show Kd.M (Kd.int .u32) _ _ _ 3556769793 [.int .u32 3556769793] from rfl) (Reps.one (show Kd.M (Kd.int .u32) _ _ _ 3573751839 [.int .u32 3573751839] from rfl) (Reps.one (show Kd.M (Kd.int .u32) _ _ _ 2592079872 [.int .u32 2592079872] from rfl) (Reps.none _ _)))))))))))))))))))))))))))))))))))))))))); intro v252 w1 ho2 hb hg_ hnew_; clear hg_ hnew_; (first | rw [← Ny251.out] at ho2 | (simp only [Int.reduceToNat] at ho2; rw [← Ny251.out] at ho2)); have n0_ := Aside0.mk (Kd.R_lower ho2 (below_size (by repeat (first | (with_reducible first | exact HB.out | apply below_alloc | apply pw_below_drewN | apply below_drew1) | exact HB.out)))); have n1_ := Aside0.mk (below_step (by repeat (first | (with_reducible first | exact HB.out | apply below_alloc | apply pw_below_drewN | apply below_drew1) | exact HB.out)) hb); clear HB; have HO253 := n0_; have HB := n1_; clear n0_ n1_; clear hb ho2))
 go_ret
 exact ⟨_, by first | rfl | (simp [errW_none, errW_some] <;> rfl) | (simp [*, errW_none, errW_some] <;> rfl), by (with_reducible repeat (first | apply Kd.R_alloc | apply Kd.R_drewN | apply Kd.R_drew)); exact HO253.out, by repeat (first | (with_reducible first | exact HB.out | apply below_alloc | apply pw_below_drewN | apply below_drew1) | exact HB.out)⟩

/-! ### cleatref05_Base: function 20 -/
def cleatref05_Base.f (a0 : Int) : Option (Int × Int) := if a0 < 1 then (some (0, 1)) else (if a0 > 39 then (some (0, 1)) else ((cleatref05_bases.f).bind fun t254 => (if 0 ≤ a0 then (if a0 < (t254.length : Int) then (some (rd t254 a0, 0)) else (none)) else (none))))
set_option maxHeartbeats 8000000 in
set_option maxRecDepth 100000 in
theorem cleatref05_Base.calls (a0 : Int) (r1 : Int) (r2 : Int) (w : World) (h : cleatref05_Base.f a0 = some (r1, r2)) :
  Calls Tryd.prog 20 #[.int .i64 a0] w fun e w' => e = .returned (.tuple #[.int .u32 r1, .int .i64 r2]) ∧ Below w.heap.size w w' := by
 have HB := Aside0.mk (Below.refl w.heap.size w)
 have H : (if a0 < 1 then (some (0, 1)) else (if a0 > 39 then (some (0, 1)) else ((cleatref05_bases.f).bind fun t254 => (if 0 ≤ a0 then (if a0 < (t254.length : Int) then (some (rd t254 a0, 0)) else (none)) else (none))))) = some (r1, r2) := h
 clear h
 by_cases c2 : a0 < 1
 ·rw [if_pos c2] at H
  have c2b0 : decide (a0 < 1) = true := decide_eq_true c2
  clear c2
  simp only [Option.some.injEq, Prod.mk.injEq] at H
  obtain ⟨rfl, rfl⟩ := H
  go_enter Tryd.func20, Tryd.ntmps20
  go_wp2
  go_ret2
  exact ⟨by first | rfl | (simp [errW_none, errW_some] <;> rfl) | (simp [*, errW_none, errW_some] <;> rfl), by repeat (first | (with_reducible first | exact HB.out | apply below_alloc | apply pw_below_drewN | apply below_drew1) | exact HB.out)⟩
 ·rw [if_neg c2] at H
  have c2b0 : decide (a0 < 1) = false := decide_eq_false c2
  clear c2
  by_cases c3 : a0 > 39
  ·rw [if_pos c3] at H
   have c3b0 : decide (39 < a0) = true := decide_eq_true c3
   clear c3
   simp only [Option.some.injEq, Prod.mk.injEq] at H
   obtain ⟨rfl, rfl⟩ := H
   go_enter Tryd.func20, Tryd.ntmps20
   go_wp2
   go_ret2
   exact ⟨by first | rfl | (simp [errW_none, errW_some] <;> rfl) | (simp [*, errW_none, errW_some] <;> rfl), by repeat (first | (with_reducible first | exact HB.out | apply below_alloc | apply pw_below_drewN | apply below_drew1) | exact HB.out)⟩
  ·rw [if_neg c3] at H
   have c3b0 : decide (39 < a0) = false := decide_eq_false c3
   clear c3
   replace H := Option.bind_eq_some_iff.mp H
   obtain ⟨t254, A40, H⟩ := H
   replace H : (if 0 ≤ a0 then (if a0 < (t254.length : Int) then (some (rd t254 a0, 0)) else (none)) else (none)) = some (r1, r2) := H
   have A4 := Aside0.mk A40
   clear A40
   by_cases c5 : 0 ≤ a0
   ·rw [if_pos c5] at H
    have c5b0 : decide (0 ≤ a0) = true := decide_eq_true c5
    clear c5
    by_cases c6 : a0 < (t254.length : Int)
    ·rw [if_pos c6] at H
     have c6b0 : decide (a0 < (t254.length : Int)) = true := decide_eq_true c6
     clear c6
     simp only [Option.some.injEq, Prod.mk.injEq] at H
     obtain ⟨rfl, rfl⟩ := H
     go_enter Tryd.func20, Tryd.ntmps20
     go_wp2_with (first | ((with_reducible refine gate_callee (f := 37) rfl ?_); refine goesL_ (some 11) rfl rfl Tryd.func37 (by kernel_rfl) rfl #[] rfl (by (try simp only [List.map_toArray, List.map_cons, List.map_nil]); first | done | rfl | (simp only [List.length_drop, List.length_take]; rfl)) ?_; (with_reducible refine (cleatref05_bases.calls  t254 _ A4.out).mono ?_); rintro e w7 ⟨v255, rfl, ho0, hb⟩; refine ⟨_, rfl, ?_⟩; have n0_ := Aside0.mk (Kd.R_lower ho0 (below_size (by repeat (first | (with_reducible first | exact HB.out | apply below_alloc | apply pw_below_drewN | apply below_drew1) | exact HB.out)))); have n1_ := Aside0.mk (below_step (by repeat (first | (with_reducible first | exact HB.out | apply below_alloc | apply pw_below_drewN | apply below_drew1) | exact HB.out)) hb); clear HB; have HO256 := n0_; have HB := n1_; clear n0_ n1_; (try clear hb); (try clear hb2); (try clear hk); (try clear hi); (try clear ho0); obtain ⟨Ao8, co8, eo8⟩ := Kd.R_slice HO256.out; subst eo8; have p257 : 0 ≤ (a0 : Int) := of_decide_eq_true (by first | (with_reducible assumption) | assumption); have q257 : a0 < (t254.length : Int) := of_decide_eq_true (by first | (with_reducible assumption) | assumption); obtain ⟨ad257, e257, hx257_0⟩ := Kd.at_int (Kd.R_reads' HO256.out).2.2 a0 p257 q257; cases e257; replace p257 := eq_true p257; replace q257 := eq_true q257))
     go_ret2
     exact ⟨by first | rfl | (simp [errW_none, errW_some] <;> rfl) | (simp [*, errW_none, errW_some] <;> rfl), by repeat (first | (with_reducible first | exact HB.out | apply below_alloc | apply pw_below_drewN | apply below_drew1) | exact HB.out)⟩
    ·rw [if_neg c6] at H
     exact absurd H (by simp)
   ·rw [if_neg c5] at H
    exact absurd H (by simp)

/-! ### cleatref04_Has: function 50 -/
mutual
def cleatref04_Has.j0 : Nat → Int → ByteArray → List ByteArray → Bool → Option (Bool)
 | 0, _, _, _, _ => none
 | k + 1, x0, x1, x5, x14 => if x14 = true then (some false) else (if 0 ≤ x0 then (if x0 < (x5.length : Int) then (cleatref04_Has.l0 k x1 (rdOf ByteArray.empty x5 x0) 0) else (none)) else (none))
def cleatref04_Has.l0 : Nat → ByteArray → ByteArray → Int → Option (Bool)
 | 0, _, _, _ => none
 | k + 1, x1, x6, x7 => if x7 < (x6.size : Int) then (if 0 ≤ x7 then (if x7 ≤ (wrap64 (x7 + 1)) then (if (wrap64 (x7 + 1)) ≤ (x6.size : Int) then (if (x6.extract (x7 : Int).toNat ((wrap64 (x7 + 1)) : Int).toNat).toList = x1.toList then (some true) else (cleatref04_Has.l0 k x1 x6 (wrap64 (x7 + 1)))) else (none)) else (none)) else (none)) else (some false)
end
def cleatref04_Has.f (k : Nat) (a0 : Int) (a1 : ByteArray) : Option (Bool) := (some (([(⟨#[]⟩ : ByteArray), (⟨#[100, 105, 119]⟩ : ByteArray), (⟨#[100, 110, 105, 119]⟩ : ByteArray), (⟨#[100, 110, 107]⟩ : ByteArray), (⟨#[100, 110, 109, 115, 119]⟩ : ByteArray), (⟨#[100, 110, 109, 115, 119]⟩ : ByteArray), (⟨#[100, 110, 109, 97]⟩ : ByteArray), (⟨#[100, 110, 105]⟩ : ByteArray), (⟨#[100, 110, 105]⟩ : ByteArray), (⟨#[100, 105]⟩ : ByteArray), (⟨#[100, 105]⟩ : ByteArray), (⟨#[105]⟩ : ByteArray), (⟨#[99, 105]⟩ : ByteArray), (⟨#[110]⟩ : ByteArray), (⟨#[105]⟩ : ByteArray), (⟨#[]⟩ : ByteArray), (⟨#[100, 110, 109, 99]⟩ : ByteArray)] : List ByteArray) : List ByteArray)).bind fun y258 => (if a0 < 0 then (cleatref04_Has.j0 k a0 a1 y258 true) else (cleatref04_Has.j0 k a0 a1 y258 (decide (a0 > 16))))
theorem cleatref04_Has.mono_l : ∀ k, (∀ y0 y1 y2 y3, LeO (cleatref04_Has.j0 k y0 y1 y2 y3) (cleatref04_Has.j0 (k + 1) y0 y1 y2 y3)) ∧ (∀ y0 y1 y2, LeO (cleatref04_Has.l0 k y0 y1 y2) (cleatref04_Has.l0 (k + 1) y0 y1 y2))
 | 0 => ⟨fun _ _ _ _ r h => by simp [cleatref04_Has.j0] at h, fun _ _ _ r h => by simp [cleatref04_Has.l0] at h⟩
 | k + 1 => by
  obtain ⟨ih0, ih1⟩ := cleatref04_Has.mono_l k
  refine ⟨?_, ?_⟩
  ·intro y0 y1 y2 y3
   unfold cleatref04_Has.j0
   repeat' first
   | (with_reducible exact ih0 _ _ _ _)
   | (with_reducible exact ih1 _ _ _)
   | (with_reducible exact LeO.refl _)
   | (with_reducible exact LeO.none _)
   | (with_reducible refine LeO.ite ?_ ?_)
   | (with_reducible refine LeO.bind ?_ (fun _ => ?_))
   | exact ih0 _ _ _ _
   | exact ih1 _ _ _
   | exact LeO.none _
   | refine LeO.ite ?_ ?_
   | refine LeO.bind ?_ (fun _ => ?_)
  ·intro y0 y1 y2
   unfold cleatref04_Has.l0
   repeat' first
   | (with_reducible exact ih0 _ _ _ _)
   | (with_reducible exact ih1 _ _ _)
   | (with_reducible exact LeO.refl _)
   | (with_reducible exact LeO.none _)
   | (with_reducible refine LeO.ite ?_ ?_)
   | (with_reducible refine LeO.bind ?_ (fun _ => ?_))
   | exact ih0 _ _ _ _
   | exact ih1 _ _ _
   | exact LeO.none _
   | refine LeO.ite ?_ ?_
   | refine LeO.bind ?_ (fun _ => ?_)
theorem cleatref04_Has.mono : ∀ a0 a1 k, LeO (cleatref04_Has.f k a0 a1) (cleatref04_Has.f (k + 1) a0 a1) := by
 intro a0 a1 k
 obtain ⟨ih0, ih1⟩ := cleatref04_Has.mono_l k
 unfold cleatref04_Has.f
 repeat' first
   | (with_reducible exact ih0 _ _ _ _)
   | (with_reducible exact ih1 _ _ _)
   | (with_reducible exact LeO.refl _)
   | (with_reducible exact LeO.none _)
   | (with_reducible refine LeO.ite ?_ ?_)
   | (with_reducible refine LeO.bind ?_ (fun _ => ?_))
   | exact ih0 _ _ _ _
   | exact ih1 _ _ _
   | exact LeO.none _
   | refine LeO.ite ?_ ?_
   | refine LeO.bind ?_ (fun _ => ?_)
set_option maxHeartbeats 8000000 in
set_option maxRecDepth 100000 in
theorem cleatref04_Has.calls (k : Nat) (a0 : Int) (a1 : ByteArray) (r : Bool) (w : World) (h : cleatref04_Has.f k a0 a1 = some r) :
  Calls Tryd.prog 50 #[.int .i64 a0, .string a1] w fun e w' => e = .returned (.bool r) ∧ Below w.heap.size w w' := by
 have HB := Aside0.mk (Below.refl w.heap.size w)
 have H : ((some (([(⟨#[]⟩ : ByteArray), (⟨#[100, 105, 119]⟩ : ByteArray), (⟨#[100, 110, 105, 119]⟩ : ByteArray), (⟨#[100, 110, 107]⟩ : ByteArray), (⟨#[100, 110, 109, 115, 119]⟩ : ByteArray), (⟨#[100, 110, 109, 115, 119]⟩ : ByteArray), (⟨#[100, 110, 109, 97]⟩ : ByteArray), (⟨#[100, 110, 105]⟩ : ByteArray), (⟨#[100, 110, 105]⟩ : ByteArray), (⟨#[100, 105]⟩ : ByteArray), (⟨#[100, 105]⟩ : ByteArray), (⟨#[105]⟩ : ByteArray), (⟨#[99, 105]⟩ : ByteArray), (⟨#[110]⟩ : ByteArray), (⟨#[105]⟩ : ByteArray), (⟨#[]⟩ : ByteArray), (⟨#[100, 110, 109, 99]⟩ : ByteArray)] : List ByteArray) : List ByteArray)).bind fun y258 => (if a0 < 0 then (cleatref04_Has.j0 k a0 a1 y258 true) else (cleatref04_Has.j0 k a0 a1 y258 (decide (a0 > 16))))) = some r := h
 clear h
 obtain ⟨y258, hy258⟩ : ∃ y_ : List ByteArray, y_ = (([(⟨#[]⟩ : ByteArray), (⟨#[100, 105, 119]⟩ : ByteArray), (⟨#[100, 110, 105, 119]⟩ : ByteArray), (⟨#[100, 110, 107]⟩ : ByteArray), (⟨#[100, 110, 109, 115, 119]⟩ : ByteArray), (⟨#[100, 110, 109, 115, 119]⟩ : ByteArray), (⟨#[100, 110, 109, 97]⟩ : ByteArray), (⟨#[100, 110, 105]⟩ : ByteArray), (⟨#[100, 110, 105]⟩ : ByteArray), (⟨#[100, 105]⟩ : ByteArray), (⟨#[100, 105]⟩ : ByteArray), (⟨#[105]⟩ : ByteArray), (⟨#[99, 105]⟩ : ByteArray), (⟨#[110]⟩ : ByteArray), (⟨#[105]⟩ : ByteArray), (⟨#[]⟩ : ByteArray), (⟨#[100, 110, 109, 99]⟩ : ByteArray)] : List ByteArray)) := ⟨_, rfl⟩
 replace H : (if a0 < 0 then (cleatref04_Has.j0 k a0 a1 y258 true) else (cleatref04_Has.j0 k a0 a1 y258 (decide (a0 > 16)))) = some r := by first | (rw [hy258]; with_reducible exact H) | (have H2_ := (Option.bind_some _ _).symm.trans H; rw [hy258]; with_reducible exact H2_) | (have H2_ := (Option.bind_some _ _).symm.trans H; with_reducible exact H2_) | with_reducible exact H | (rw [hy258]; exact H) | exact H
 have Ny258 := Aside0.mk hy258
 clear hy258
 have HC3 := Aside0.mk H
 clear H
 go_enter Tryd.func50, Tryd.ntmps50
 go_upto_region 2 with (first | ((with_reducible refine gate_dst (N := 8) rfl ?_); refine Kd.R_lit Kd.string _ 9 ?hg (N := 8) ?hd (xs := ([(⟨#[]⟩ : ByteArray), (⟨#[100, 105, 119]⟩ : ByteArray), (⟨#[100, 110, 105, 119]⟩ : ByteArray), (⟨#[100, 110, 107]⟩ : ByteArray), (⟨#[100, 110, 109, 115, 119]⟩ : ByteArray), (⟨#[100, 110, 109, 115, 119]⟩ : ByteArray), (⟨#[100, 110, 109, 97]⟩ : ByteArray), (⟨#[100, 110, 105]⟩ : ByteArray), (⟨#[100, 110, 105]⟩ : ByteArray), (⟨#[100, 105]⟩ : ByteArray), (⟨#[100, 105]⟩ : ByteArray), (⟨#[105]⟩ : ByteArray), (⟨#[99, 105]⟩ : ByteArray), (⟨#[110]⟩ : ByteArray), (⟨#[105]⟩ : ByteArray), (⟨#[]⟩ : ByteArray), (⟨#[100, 110, 109, 99]⟩ : ByteArray)] : List ByteArray)) (inner := [.string (⟨#[]⟩ : ByteArray), .string (⟨#[100, 105, 119]⟩ : ByteArray), .string (⟨#[100, 110, 105, 119]⟩ : ByteArray), .string (⟨#[100, 110, 107]⟩ : ByteArray), .string (⟨#[100, 110, 109, 115, 119]⟩ : ByteArray), .string (⟨#[100, 110, 109, 115, 119]⟩ : ByteArray), .string (⟨#[100, 110, 109, 97]⟩ : ByteArray), .string (⟨#[100, 110, 105]⟩ : ByteArray), .string (⟨#[100, 110, 105]⟩ : ByteArray), .string (⟨#[100, 105]⟩ : ByteArray), .string (⟨#[100, 105]⟩ : ByteArray), .string (⟨#[105]⟩ : ByteArray), .string (⟨#[99, 105]⟩ : ByteArray), .string (⟨#[110]⟩ : ByteArray), .string (⟨#[105]⟩ : ByteArray), .string (⟨#[]⟩ : ByteArray), .string (⟨#[100, 110, 109, 99]⟩ : ByteArray)]) (ok := fun _ => True) (okp := fun _ => True) ?hr ?hp (fun _ hk => hk) trivial (Below.refl _ _) (Nat.le_refl _) (by simp) ?_; (case hd => rfl); (case hg => rfl); (case hr => first | (go_simp; done) | (go_simp; rfl)); (case hp => exact (Reps.one (show Kd.M Kd.string _ _ _ (⟨#[]⟩ : ByteArray) [.string (⟨#[]⟩ : ByteArray)] from rfl) (Reps.one (show Kd.M Kd.string _ _ _ (⟨#[100, 105, 119]⟩ : ByteArray) [.string (⟨#[100, 105, 119]⟩ : ByteArray)] from rfl) (Reps.one (show Kd.M Kd.string _ _ _ (⟨#[100, 110, 105, 119]⟩ : ByteArray) [.string (⟨#[100, 110, 105, 119]⟩ : ByteArray)] from rfl) (Reps.one (show Kd.M Kd.string _ _ _ (⟨#[100, 110, 107]⟩ : ByteArray) [.string (⟨#[100, 110, 107]⟩ : ByteArray)] from rfl) (Reps.one (show Kd.M Kd.string _ _ _ (⟨#[100, 110, 109, 115, 119]⟩ : ByteArray) [.string (⟨#[100, 110, 109, 115, 119]⟩ : ByteArray)] from rfl) (Reps.one (show Kd.M Kd.string _ _ _ (⟨#[100, 110, 109, 115, 119]⟩ : ByteArray) [.string (⟨#[100, 110, 109, 115, 119]⟩ : ByteArray)] from rfl) (Reps.one (show Kd.M Kd.string _ _ _ (⟨#[100, 110, 109, 97]⟩ : ByteArray) [.string (⟨#[100, 110, 109, 97]⟩ : ByteArray)] from rfl) (Reps.one (show Kd.M Kd.string _ _ _ (⟨#[100, 110, 105]⟩ : ByteArray) [.string (⟨#[100, 110, 105]⟩ : ByteArray)] from rfl) (Reps.one (show Kd.M Kd.string _ _ _ (⟨#[100, 110, 105]⟩ : ByteArray) [.string (⟨#[100, 110, 105]⟩ : ByteArray)] from rfl) (Reps.one (show Kd.M Kd.string _ _ _ (⟨#[100, 105]⟩ : ByteArray) [.string (⟨#[100, 105]⟩ : ByteArray)] from rfl) (Reps.one (show Kd.M Kd.string _ _ _ (⟨#[100, 105]⟩ : ByteArray) [.string (⟨#[100, 105]⟩ : ByteArray)] from rfl) (Reps.one (show Kd.M Kd.string _ _ _ (⟨#[105]⟩ : ByteArray) [.string (⟨#[105]⟩ : ByteArray)] from rfl) (Reps.one (show Kd.M Kd.string _ _ _ (⟨#[99, 105]⟩ : ByteArray) [.string (⟨#[99, 105]⟩ : ByteArray)] from rfl) (Reps.one (show Kd.M Kd.string _ _ _ (⟨#[110]⟩ : ByteArray) [.string (⟨#[110]⟩ : ByteArray)] from rfl) (Reps.one (show Kd.M Kd.string _ _ _ (⟨#[105]⟩ : ByteArray) [.string (⟨#[105]⟩ : ByteArray)] from rfl) (Reps.one (show Kd.M Kd.string _ _ _ (⟨#[]⟩ : ByteArray) [.string (⟨#[]⟩ : ByteArray)] from rfl) (Reps.one (show Kd.M Kd.string _ _ _ (⟨#[100, 110, 109, 99]⟩ : ByteArray) [.string (⟨#[100, 110, 109, 99]⟩ : ByteArray)] from rfl) (Reps.none _ _))))))))))))))))))); intro v259 w4 ho5 hb hg_ hnew_; clear hg_ hnew_; (first | rw [← Ny258.out] at ho5 | (simp only [Int.reduceToNat] at ho5; rw [← Ny258.out] at ho5)); have n0_ := Aside0.mk (Kd.R_lower ho5 (below_size (by repeat (first | (with_reducible first | exact HB.out | apply below_alloc | apply pw_below_drewN | apply below_drew1) | exact HB.out)))); have n1_ := Aside0.mk (below_step (by repeat (first | (with_reducible first | exact HB.out | apply below_alloc | apply pw_below_drewN | apply below_drew1) | exact HB.out)) hb); clear HB; have HO260 := n0_; have HB := n1_; clear n0_ n1_; clear hb ho5))
 (try simp only [Act.put, List.setIfInBounds_toArray, List.set_cons_zero, List.set_cons_succ])
 go_cut [14] (fun v14 wc => ∃ (kq : Nat) (x14_2 : Bool), v14 = .bool x14_2 ∧ Aside0 (cleatref04_Has.j0 kq a0 a1 y258 x14_2 = some r) ∧ Aside0 (kq ≤ k) ∧ Aside0 (Kd.R Kd.string 9 wc w.heap.size (fun _ => True) v259 y258) ∧ Aside0 (Below w.heap.size w wc))
 case first =>
  have H := HC3.out
  clear HC3
  by_cases c6 : a0 < 0
  ·rw [if_pos c6] at H
   have c6b0 : decide (a0 < 0) = true := decide_eq_true c6
   clear c6
   (first | rw [c6b0] | (simp only [i64_w, i32_w]; rw [c6b0]) | skip)
   have H' := Aside0.mk H
   clear H
   go_wp2
   go_meet
   case rel => exact ⟨_, (true), (by first | rfl | (simp; done) | (simp [*]; done)), H', ⟨by first | omega | exact Nat.le_refl _⟩, ⟨by (with_reducible repeat (first | apply Kd.R_alloc | apply Kd.R_drewN | apply Kd.R_drew)); exact HO260.out⟩, ⟨by repeat (first | (with_reducible first | exact HB.out | apply below_alloc | apply pw_below_drewN | apply below_drew1) | exact HB.out)⟩⟩
  ·rw [if_neg c6] at H
   have c6b0 : decide (a0 < 0) = false := decide_eq_false c6
   clear c6
   (first | rw [c6b0] | (simp only [i64_w, i32_w]; rw [c6b0]) | skip)
   have H' := Aside0.mk H
   clear H
   go_wp2
   go_meet
   case rel => exact ⟨_, (decide (a0 > 16)), (by first | rfl | (simp; done) | (simp [*]; done)), H', ⟨by first | omega | exact Nat.le_refl _⟩, ⟨by (with_reducible repeat (first | apply Kd.R_alloc | apply Kd.R_drewN | apply Kd.R_drew)); exact HO260.out⟩, ⟨by repeat (first | (with_reducible first | exact HB.out | apply below_alloc | apply pw_below_drewN | apply below_drew1) | exact HB.out)⟩⟩
 case rest =>
  clear HC3
  try clear p2
  try clear c5
  try clear c6
  try clear c6b0
  obtain ⟨kq, x14_2, rfl, HA, HJ2, HO_5, HB⟩ := hcut
  cases kq with
  | zero => exact absurd HA.out (by simp [cleatref04_Has.j0])
  | succ kj2 =>
   have H := HA.out
   clear HA
   simp only [cleatref04_Has.j0] at H
   by_cases c7 : x14_2 = true
   ·subst c7
    rw [if_pos rfl] at H
    obtain rfl := Option.some.inj H
    go_wp2
    go_ret
    exact ⟨by first | rfl | (simp [errW_none, errW_some] <;> rfl) | (simp [*, errW_none, errW_some] <;> rfl), by repeat (first | (with_reducible first | exact HB.out | apply below_alloc | apply pw_below_drewN | apply below_drew1) | exact HB.out)⟩
   ·replace c7 := Bool.eq_false_iff.mpr c7
    subst c7
    rw [if_neg (show ¬ (false = true) by decide)] at H
    by_cases c8 : 0 ≤ a0
    ·rw [if_pos c8] at H
     have c8b0 : decide (0 ≤ a0) = true := decide_eq_true c8
     clear c8
     by_cases c9 : a0 < (y258.length : Int)
     ·rw [if_pos c9] at H
      have c9b0 : decide (a0 < (y258.length : Int)) = true := decide_eq_true c9
      clear c9
      have H' := Aside0.mk H
      clear H
      obtain ⟨Ao10, co10, eo10⟩ := Kd.R_slice HO_5.out
      subst eo10
      have p261 : 0 ≤ (a0 : Int) := of_decide_eq_true (by first | (with_reducible assumption) | assumption)
      have q261 : a0 < (y258.length : Int) := of_decide_eq_true (by first | (with_reducible assumption) | assumption)
      obtain ⟨ad261, e261, hx261_0⟩ := Kd.at_string (Kd.R_reads' HO_5.out).2.2 a0 p261 q261
      cases e261
      replace p261 := eq_true p261
      replace q261 := eq_true q261
      go_wp2
      go_loopg [7] kj2 (fun kq v7 w' => ∃ (x7_2 : Int), v7 = .int .i64 x7_2 ∧ Aside0 (cleatref04_Has.l0 kq a1 (rdOf ByteArray.empty y258 a0) x7_2 = some r) ∧ Aside0 (kq ≤ kj2) ∧ Aside0 (Below w.heap.size w w'))
      case atStart => exact ⟨(0), (by first | rfl | (simp; done) | (simp [*]; done)), H', ⟨Nat.le_refl _⟩, ⟨by repeat (first | (with_reducible first | exact HB.out | apply below_alloc | apply pw_below_drewN | apply below_drew1) | exact HB.out)⟩⟩
      case round =>
       clear H'
       try clear p2
       try clear q2
       try clear hx2
       try clear c5
       try clear c6
       try clear c6b0
       try clear c7
       try clear c8
       try clear c8b0
       try clear c9
       try clear c9b0
       try clear hx261_0
       try clear p2
       try clear p261
       try clear q261
       obtain ⟨x7_2, rfl, HA, HK2, HB⟩ := hrel
       cases gk with
       | zero => exact absurd HA.out (by simp [cleatref04_Has.l0])
       | succ k2 =>
        have H := HA.out
        clear HA
        simp only [cleatref04_Has.l0] at H
        by_cases c11 : x7_2 < ((rdOf ByteArray.empty y258 a0).size : Int)
        ·rw [if_pos c11] at H
         have c11b0 : decide (x7_2 < ((rdOf ByteArray.empty y258 a0).size : Int)) = true := decide_eq_true c11
         clear c11
         by_cases c12 : 0 ≤ x7_2
         ·rw [if_pos c12] at H
          have c12b0 := eq_true c12
          have c12b1 : decide (0 ≤ x7_2) = true := decide_eq_true c12
          clear c12
          by_cases c13 : x7_2 ≤ (wrap64 (x7_2 + 1))
          ·rw [if_pos c13] at H
           have c13b0 := eq_true c13
           have c13b1 : decide (x7_2 ≤ (wrap64 (x7_2 + 1))) = true := decide_eq_true c13
           by_cases c14 : (wrap64 (x7_2 + 1)) ≤ ((rdOf ByteArray.empty y258 a0).size : Int)
           ·rw [if_pos c14] at H
            have c14b0 := eq_true c14
            have c14b1 : decide ((wrap64 (x7_2 + 1)) ≤ ((rdOf ByteArray.empty y258 a0).size : Int)) = true := decide_eq_true c14
            by_cases c15 : ((rdOf ByteArray.empty y258 a0).extract (x7_2 : Int).toNat ((wrap64 (x7_2 + 1)) : Int).toNat).toList = a1.toList
            ·rw [if_pos c15] at H
             have c15b0 : (((rdOf ByteArray.empty y258 a0).extract (x7_2 : Int).toNat ((wrap64 (x7_2 + 1)) : Int).toNat).toList == a1.toList) = true := beq_iff_eq.mpr c15
             have c15b1 : (((rdOf ByteArray.empty y258 a0).extract (x7_2 : Int).toNat ((wrap64 (x7_2 + 1)) : Int).toNat).toList != a1.toList) = false := bne_eq_false_iff_eq.mpr c15
             clear c15
             obtain rfl := Option.some.inj H
             go_wp2
             go_ret
             exact ⟨by first | rfl | (simp [errW_none, errW_some] <;> rfl) | (simp [*, errW_none, errW_some] <;> rfl), by repeat (first | (with_reducible first | exact HB.out | apply below_alloc | apply pw_below_drewN | apply below_drew1) | exact HB.out)⟩
            ·rw [if_neg c15] at H
             have c15b0 : (((rdOf ByteArray.empty y258 a0).extract (x7_2 : Int).toNat ((wrap64 (x7_2 + 1)) : Int).toNat).toList == a1.toList) = false := beq_eq_false_iff_ne.mpr c15
             have c15b1 : (((rdOf ByteArray.empty y258 a0).extract (x7_2 : Int).toNat ((wrap64 (x7_2 + 1)) : Int).toNat).toList != a1.toList) = true := bne_iff_ne.mpr c15
             have H' := Aside0.mk H
             clear H
             go_wp2
             go_roundg k2
             case measure => have := HJ2.out; have := HK2.out; omega
             case rel => exact ⟨(wrap64 (x7_2 + 1)), (by first | rfl | (simp; done) | (simp [*]; done)), H', ⟨by have := HJ2.out; have := HK2.out; omega⟩, ⟨by repeat (first | (with_reducible first | exact HB.out | apply below_alloc | apply pw_below_drewN | apply below_drew1) | exact HB.out)⟩⟩
           ·rw [if_neg c14] at H
            exact absurd H (by simp)
          ·rw [if_neg c13] at H
           exact absurd H (by simp)
         ·rw [if_neg c12] at H
          exact absurd H (by simp)
        ·rw [if_neg c11] at H
         have c11b0 : decide (x7_2 < ((rdOf ByteArray.empty y258 a0).size : Int)) = false := decide_eq_false c11
         clear c11
         obtain rfl := Option.some.inj H
         go_wp2
         go_ret
         exact ⟨by first | rfl | (simp [errW_none, errW_some] <;> rfl) | (simp [*, errW_none, errW_some] <;> rfl), by repeat (first | (with_reducible first | exact HB.out | apply below_alloc | apply pw_below_drewN | apply below_drew1) | exact HB.out)⟩
     ·rw [if_neg c9] at H
      exact absurd H (by simp)
    ·rw [if_neg c8] at H
     exact absurd H (by simp)

/-! ### cleatref04_reg: function 49 -/
def cleatref04_reg.f (k : Nat) (a0 : Int) (a1 : ByteArray) (a2 : Int) : Option (Bool) := (cleatref04_Has.f k a0 a1).bind fun t262 => (if t262 = true then (if a2 ≥ 0 then (some (decide (a2 ≤ 31))) else (some false)) else (some (a2 == 0)))
theorem cleatref04_reg.mono : ∀ a0 a1 a2 k, LeO (cleatref04_reg.f k a0 a1 a2) (cleatref04_reg.f (k + 1) a0 a1 a2) := by
 intro a0 a1 a2 k
 unfold cleatref04_reg.f
 repeat' first
   | (with_reducible exact cleatref04_Has.mono _ _ _)
   | (with_reducible exact LeO.refl _)
   | (with_reducible exact LeO.none _)
   | (with_reducible refine LeO.ite ?_ ?_)
   | (with_reducible refine LeO.bind ?_ (fun _ => ?_))
   | exact cleatref04_Has.mono _ _ _
   | exact LeO.none _
   | refine LeO.ite ?_ ?_
   | refine LeO.bind ?_ (fun _ => ?_)
set_option maxHeartbeats 8000000 in
set_option maxRecDepth 100000 in
theorem cleatref04_reg.calls (k : Nat) (a0 : Int) (a1 : ByteArray) (a2 : Int) (r : Bool) (w : World) (h : cleatref04_reg.f k a0 a1 a2 = some r) :
  Calls Tryd.prog 49 #[.int .i64 a0, .string a1, .int .i64 a2] w fun e w' => e = .returned (.bool r) ∧ Below w.heap.size w w' := by
 have HB := Aside0.mk (Below.refl w.heap.size w)
 have H : ((cleatref04_Has.f k a0 a1).bind fun t262 => (if t262 = true then (if a2 ≥ 0 then (some (decide (a2 ≤ 31))) else (some false)) else (some (a2 == 0)))) = some r := h
 clear h
 replace H := Option.bind_eq_some_iff.mp H
 obtain ⟨t262, A40, H⟩ := H
 replace H : (if t262 = true then (if a2 ≥ 0 then (some (decide (a2 ≤ 31))) else (some false)) else (some (a2 == 0))) = some r := H
 have A4 := Aside0.mk A40
 clear A40
 by_cases c5 : t262 = true
 ·subst c5
  rw [if_pos rfl] at H
  by_cases c6 : a2 ≥ 0
  ·rw [if_pos c6] at H
   have c6b0 : decide (0 ≤ a2) = true := decide_eq_true c6
   clear c6
   obtain rfl := Option.some.inj H
   go_enter Tryd.func49, Tryd.ntmps49
   go_wp2_with (first | ((with_reducible refine gate_callee (f := 50) rfl ?_); refine goesL_ (some 9) rfl rfl Tryd.func50 (by kernel_rfl) rfl #[.int .i64 a0, .string a1] rfl (by (try simp only [List.map_toArray, List.map_cons, List.map_nil]); first | done | rfl | (simp only [List.length_drop, List.length_take]; rfl)) ?_; (with_reducible refine (cleatref04_Has.calls k a0 a1 true _ A4.out).mono ?_); rintro e w7 ⟨rfl, hb⟩; refine ⟨_, rfl, ?_⟩; have n0_ := Aside0.mk (below_step (by repeat (first | (with_reducible first | exact HB.out | apply below_alloc | apply pw_below_drewN | apply below_drew1) | exact HB.out)) hb); clear HB; have HB := n0_; clear n0_; (try clear hb); (try clear hb2); (try clear hk); (try clear hi)))
   go_ret
   exact ⟨by first | rfl | (simp [errW_none, errW_some] <;> rfl) | (simp [*, errW_none, errW_some] <;> rfl), by repeat (first | (with_reducible first | exact HB.out | apply below_alloc | apply pw_below_drewN | apply below_drew1) | exact HB.out)⟩
  ·rw [if_neg c6] at H
   have c6b0 : decide (0 ≤ a2) = false := decide_eq_false c6
   clear c6
   obtain rfl := Option.some.inj H
   go_enter Tryd.func49, Tryd.ntmps49
   go_wp2_with (first | ((with_reducible refine gate_callee (f := 50) rfl ?_); refine goesL_ (some 9) rfl rfl Tryd.func50 (by kernel_rfl) rfl #[.int .i64 a0, .string a1] rfl (by (try simp only [List.map_toArray, List.map_cons, List.map_nil]); first | done | rfl | (simp only [List.length_drop, List.length_take]; rfl)) ?_; (with_reducible refine (cleatref04_Has.calls k a0 a1 true _ A4.out).mono ?_); rintro e w8 ⟨rfl, hb⟩; refine ⟨_, rfl, ?_⟩; have n0_ := Aside0.mk (below_step (by repeat (first | (with_reducible first | exact HB.out | apply below_alloc | apply pw_below_drewN | apply below_drew1) | exact HB.out)) hb); clear HB; have HB := n0_; clear n0_; (try clear hb); (try clear hb2); (try clear hk); (try clear hi)))
   go_ret
   exact ⟨by first | rfl | (simp [errW_none, errW_some] <;> rfl) | (simp [*, errW_none, errW_some] <;> rfl), by repeat (first | (with_reducible first | exact HB.out | apply below_alloc | apply pw_below_drewN | apply below_drew1) | exact HB.out)⟩
 ·replace c5 := Bool.eq_false_iff.mpr c5
  subst c5
  rw [if_neg (show ¬ (false = true) by decide)] at H
  obtain rfl := Option.some.inj H
  go_enter Tryd.func49, Tryd.ntmps49
  go_wp2_with (first | ((with_reducible refine gate_callee (f := 50) rfl ?_); refine goesL_ (some 9) rfl rfl Tryd.func50 (by kernel_rfl) rfl #[.int .i64 a0, .string a1] rfl (by (try simp only [List.map_toArray, List.map_cons, List.map_nil]); first | done | rfl | (simp only [List.length_drop, List.length_take]; rfl)) ?_; (with_reducible refine (cleatref04_Has.calls k a0 a1 false _ A4.out).mono ?_); rintro e w9 ⟨rfl, hb⟩; refine ⟨_, rfl, ?_⟩; have n0_ := Aside0.mk (below_step (by repeat (first | (with_reducible first | exact HB.out | apply below_alloc | apply pw_below_drewN | apply below_drew1) | exact HB.out)) hb); clear HB; have HB := n0_; clear n0_; (try clear hb); (try clear hb2); (try clear hk); (try clear hi)))
  go_ret
  exact ⟨by first | rfl | (simp [errW_none, errW_some] <;> rfl) | (simp [*, errW_none, errW_some] <;> rfl), by repeat (first | (with_reducible first | exact HB.out | apply below_alloc | apply pw_below_drewN | apply below_drew1) | exact HB.out)⟩

/-! ### cleatref01_Power: function 34 -/
def cleatref01_Power.l0 : Nat → Int → Int → Int → Option (Int)
 | 0, _, _, _ => none
 | k + 1, x0, x3, x4 => if x4 < x0 then (cleatref01_Power.l0 k x0 (IntKind.u64.wrap (2 * x3)) (wrap64 (x4 + 1))) else (some x3)
def cleatref01_Power.f (k : Nat) (a0 : Int) : Option (Int) := cleatref01_Power.l0 k a0 1 0
theorem cleatref01_Power.mono_l : ∀ k, (∀ y0 y1 y2, LeO (cleatref01_Power.l0 k y0 y1 y2) (cleatref01_Power.l0 (k + 1) y0 y1 y2))
 | 0 => fun _ _ _ r h => by simp [cleatref01_Power.l0] at h
 | k + 1 => by
  have ih0 := cleatref01_Power.mono_l k
  ·intro y0 y1 y2
   unfold cleatref01_Power.l0
   repeat' first
   | (with_reducible exact ih0 _ _ _)
   | (with_reducible exact LeO.refl _)
   | (with_reducible exact LeO.none _)
   | (with_reducible refine LeO.ite ?_ ?_)
   | (with_reducible refine LeO.bind ?_ (fun _ => ?_))
   | exact ih0 _ _ _
   | exact LeO.none _
   | refine LeO.ite ?_ ?_
   | refine LeO.bind ?_ (fun _ => ?_)
theorem cleatref01_Power.mono : ∀ a0 k, LeO (cleatref01_Power.f k a0) (cleatref01_Power.f (k + 1) a0) := by
 intro a0 k
 have ih0 := cleatref01_Power.mono_l k
 unfold cleatref01_Power.f
 repeat' first
   | (with_reducible exact ih0 _ _ _)
   | (with_reducible exact LeO.refl _)
   | (with_reducible exact LeO.none _)
   | (with_reducible refine LeO.ite ?_ ?_)
   | (with_reducible refine LeO.bind ?_ (fun _ => ?_))
   | exact ih0 _ _ _
   | exact LeO.none _
   | refine LeO.ite ?_ ?_
   | refine LeO.bind ?_ (fun _ => ?_)
set_option maxHeartbeats 8000000 in
set_option maxRecDepth 100000 in
theorem cleatref01_Power.calls (k : Nat) (a0 : Int) (r : Int) (w : World) (h : cleatref01_Power.f k a0 = some r) :
  Calls Tryd.prog 34 #[.int .i64 a0] w fun e w' => e = .returned (.int .u64 r) ∧ Drawn0 w w' := by
 have H : (cleatref01_Power.l0 k a0 1 0) = some r := h
 clear h
 have H' := Aside0.mk H
 clear H
 go_enter Tryd.func34, Tryd.ntmps34
 go_wp2
 go_loopg [3, 4] k (fun kq v3 v4 w' => ∃ (x3_1 : Int) (x4_1 : Int), v3 = .int .u64 x3_1 ∧ v4 = .int .i64 x4_1 ∧ Aside0 (cleatref01_Power.l0 kq a0 x3_1 x4_1 = some r) ∧ Aside0 (kq ≤ k) ∧ Drawn0 w w')
 case atStart => exact ⟨(1), (0), (by first | rfl | (simp; done) | (simp [*]; done)), (by first | rfl | (simp; done) | (simp [*]; done)), H', ⟨Nat.le_refl _⟩, by repeat (first | exact Drawn0.refl _ | apply Drawn0.step)⟩
 case round =>
  clear H'
  obtain ⟨x3_1, x4_1, rfl, rfl, HA, HK1, ⟨m1, rfl⟩⟩ := hrel
  cases gk with
  | zero => exact absurd HA.out (by simp [cleatref01_Power.l0])
  | succ k1 =>
   have H := HA.out
   clear HA
   simp only [cleatref01_Power.l0] at H
   by_cases c2 : x4_1 < a0
   ·rw [if_pos c2] at H
    have c2b0 : decide (x4_1 < a0) = true := decide_eq_true c2
    clear c2
    have H' := Aside0.mk H
    clear H
    go_wp2
    go_roundg k1
    case measure => have := HK1.out; omega
    case rel => exact ⟨(IntKind.u64.wrap (2 * x3_1)), (wrap64 (x4_1 + 1)), (by first | rfl | (simp; done) | (simp [*]; done)), (by first | rfl | (simp; done) | (simp [*]; done)), H', ⟨by have := HK1.out; omega⟩, by repeat (first | exact Drawn0.refl _ | apply Drawn0.step)⟩
   ·rw [if_neg c2] at H
    have c2b0 : decide (x4_1 < a0) = false := decide_eq_false c2
    clear c2
    obtain rfl := Option.some.inj H
    go_wp2
    go_ret
    exact ⟨by first | rfl | (simp; done) | (simp [*]; done), by repeat (first | exact Drawn0.refl _ | apply Drawn0.step)⟩

/-! ### cleatref01_Low: function 69 -/
def cleatref01_Low.f (k : Nat) (a0 : Int) (a1 : Int) : Option (Int) := if a1 ≤ 0 then (some 0) else (if a1 ≥ 64 then (some a0) else ((cleatref01_Power.f k a1).bind fun t263 => (if t263 = 0 then (none) else (some (Int.tmod a0 t263)))))
theorem cleatref01_Low.mono : ∀ a0 a1 k, LeO (cleatref01_Low.f k a0 a1) (cleatref01_Low.f (k + 1) a0 a1) := by
 intro a0 a1 k
 unfold cleatref01_Low.f
 repeat' first
   | (with_reducible exact cleatref01_Power.mono _ _)
   | (with_reducible exact LeO.refl _)
   | (with_reducible exact LeO.none _)
   | (with_reducible refine LeO.ite ?_ ?_)
   | (with_reducible refine LeO.bind ?_ (fun _ => ?_))
   | exact cleatref01_Power.mono _ _
   | exact LeO.none _
   | refine LeO.ite ?_ ?_
   | refine LeO.bind ?_ (fun _ => ?_)
set_option maxHeartbeats 8000000 in
set_option maxRecDepth 100000 in
theorem cleatref01_Low.calls (k : Nat) (a0 : Int) (a1 : Int) (r : Int) (w : World) (h : cleatref01_Low.f k a0 a1 = some r) :
  Calls Tryd.prog 69 #[.int .u64 a0, .int .i64 a1] w fun e w' => e = .returned (.int .u64 r) ∧ Drawn0 w w' := by
 have H : (if a1 ≤ 0 then (some 0) else (if a1 ≥ 64 then (some a0) else ((cleatref01_Power.f k a1).bind fun t263 => (if t263 = 0 then (none) else (some (Int.tmod a0 t263)))))) = some r := h
 clear h
 by_cases c3 : a1 ≤ 0
 ·rw [if_pos c3] at H
  have c3b0 : decide (a1 ≤ 0) = true := decide_eq_true c3
  clear c3
  obtain rfl := Option.some.inj H
  go_enter Tryd.func69, Tryd.ntmps69
  go_wp2
  go_ret
  exact ⟨by first | rfl | (simp; done) | (simp [*]; done), by repeat (first | exact Drawn0.refl _ | apply Drawn0.step)⟩
 ·rw [if_neg c3] at H
  have c3b0 : decide (a1 ≤ 0) = false := decide_eq_false c3
  clear c3
  by_cases c4 : a1 ≥ 64
  ·rw [if_pos c4] at H
   have c4b0 : decide (64 ≤ a1) = true := decide_eq_true c4
   clear c4
   obtain rfl := Option.some.inj H
   go_enter Tryd.func69, Tryd.ntmps69
   go_wp2
   go_ret
   exact ⟨by first | rfl | (simp; done) | (simp [*]; done), by repeat (first | exact Drawn0.refl _ | apply Drawn0.step)⟩
  ·rw [if_neg c4] at H
   have c4b0 : decide (64 ≤ a1) = false := decide_eq_false c4
   clear c4
   replace H := Option.bind_eq_some_iff.mp H
   obtain ⟨t263, A50, H⟩ := H
   replace H : (if t263 = 0 then (none) else (some (Int.tmod a0 t263))) = some r := H
   have A5 := Aside0.mk A50
   clear A50
   by_cases c6 : t263 = 0
   ·rw [if_pos c6] at H
    exact absurd H (by simp)
   ·rw [if_neg c6] at H
    have c6b0 : (t263 == 0) = false := beq_eq_false_iff_ne.mpr c6
    have c6b1 : (t263 != 0) = true := bne_iff_ne.mpr c6
    obtain rfl := Option.some.inj H
    go_enter Tryd.func69, Tryd.ntmps69
    go_wp2_with (first | ((with_reducible refine gate_callee (f := 34) rfl ?_); refine goesL_ (some 12) rfl rfl Tryd.func34 (by kernel_rfl) rfl #[.int .i64 a1] rfl (by (try simp only [List.map_toArray, List.map_cons, List.map_nil]); first | done | rfl | (simp only [List.length_drop, List.length_take]; rfl)) ?_; (with_reducible refine (cleatref01_Power.calls k a1 t263 _ A5.out).mono ?_); rintro e w' ⟨rfl, ⟨nd, rfl⟩⟩; refine ⟨_, rfl, ?_⟩))
    go_ret
    exact ⟨by first | rfl | (simp; done) | (simp [*]; done), by repeat (first | exact Drawn0.refl _ | apply Drawn0.step)⟩

/-! ### cleatref01_Bit: function 76 -/
def cleatref01_Bit.f (k : Nat) (a0 : Int) (a1 : Int) : Option (Bool) := (cleatref01_Power.f k a1).bind fun t264 => (if t264 = 0 then (none) else (some ((Int.tmod (IntKind.u64.wrap (Int.tdiv a0 t264)) 2) == 1)))
theorem cleatref01_Bit.mono : ∀ a0 a1 k, LeO (cleatref01_Bit.f k a0 a1) (cleatref01_Bit.f (k + 1) a0 a1) := by
 intro a0 a1 k
 unfold cleatref01_Bit.f
 repeat' first
   | (with_reducible exact cleatref01_Power.mono _ _)
   | (with_reducible exact LeO.refl _)
   | (with_reducible exact LeO.none _)
   | (with_reducible refine LeO.ite ?_ ?_)
   | (with_reducible refine LeO.bind ?_ (fun _ => ?_))
   | exact cleatref01_Power.mono _ _
   | exact LeO.none _
   | refine LeO.ite ?_ ?_
   | refine LeO.bind ?_ (fun _ => ?_)
set_option maxHeartbeats 8000000 in
set_option maxRecDepth 100000 in
theorem cleatref01_Bit.calls (k : Nat) (a0 : Int) (a1 : Int) (r : Bool) (w : World) (h : cleatref01_Bit.f k a0 a1 = some r) :
  Calls Tryd.prog 76 #[.int .u64 a0, .int .i64 a1] w fun e w' => e = .returned (.bool r) ∧ Drawn0 w w' := by
 have H : ((cleatref01_Power.f k a1).bind fun t264 => (if t264 = 0 then (none) else (some ((Int.tmod (IntKind.u64.wrap (Int.tdiv a0 t264)) 2) == 1)))) = some r := h
 clear h
 replace H := Option.bind_eq_some_iff.mp H
 obtain ⟨t264, A30, H⟩ := H
 replace H : (if t264 = 0 then (none) else (some ((Int.tmod (IntKind.u64.wrap (Int.tdiv a0 t264)) 2) == 1))) = some r := H
 have A3 := Aside0.mk A30
 clear A30
 by_cases c4 : t264 = 0
 ·rw [if_pos c4] at H
  exact absurd H (by simp)
 ·rw [if_neg c4] at H
  have c4b0 : (t264 == 0) = false := beq_eq_false_iff_ne.mpr c4
  have c4b1 : (t264 != 0) = true := bne_iff_ne.mpr c4
  obtain rfl := Option.some.inj H
  go_enter Tryd.func76, Tryd.ntmps76
  go_wp2_with (first | ((with_reducible refine gate_callee (f := 34) rfl ?_); refine goesL_ (some 7) rfl rfl Tryd.func34 (by kernel_rfl) rfl #[.int .i64 a1] rfl (by (try simp only [List.map_toArray, List.map_cons, List.map_nil]); first | done | rfl | (simp only [List.length_drop, List.length_take]; rfl)) ?_; (with_reducible refine (cleatref01_Power.calls k a1 t264 _ A3.out).mono ?_); rintro e w' ⟨rfl, ⟨nd, rfl⟩⟩; refine ⟨_, rfl, ?_⟩))
  go_ret
  exact ⟨by first | rfl | (simp; done) | (simp [*]; done), by repeat (first | exact Drawn0.refl _ | apply Drawn0.step)⟩

end Go.Proofs.YtemenenkefcebaaDoor.P
