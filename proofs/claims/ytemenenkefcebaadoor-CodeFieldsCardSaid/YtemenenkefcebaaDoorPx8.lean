-- printed by wip/tools/myprint.py out of the translation. Not trusted: Lean checks it.
import Derived.Test.YtemenenkefcebaaDoorPx0
import Derived.Test.YtemenenkefcebaaDoorPx2
import Derived.Test.YtemenenkefcebaaDoorPx5
import Derived.Test.YtemenenkefcebaaDoorPx6
import Derived.Test.YtemenenkefcebaaDoorPx7
namespace Go.Proofs.YtemenenkefcebaaDoor.P
open Go.RowKit Go.Proofs.YtemenenkefcebaaDoorW.PrintWords Go.Proofs.YtemenenkefcebaaDoorW.PrintLast Go.Proofs.YtemenenkefcebaaDoorW.PrintMore
attribute [local go_sem] max2_int min2_int max_two min_two max_three min_three max_four min_four   -- for this text's walks alone
set_option linter.unusedVariables false
set_option linter.unusedSimpArgs false

/-! ### code_signed: function 47 -/
def code_signed.f (k : Nat) (a0 : Int) (a1 : Int) (a2 : Int) : Option (Int) := (bits_Field.f a0 a1 a2).bind fun bt172 => ((bits_Signed.f k bt172.1 a2).bind fun bt174 => (some bt174.1))
theorem code_signed.mono : ∀ a0 a1 a2 k, LeO (code_signed.f k a0 a1 a2) (code_signed.f (k + 1) a0 a1 a2) := by
 intro a0 a1 a2 k
 unfold code_signed.f
 repeat' first
   | (with_reducible exact bits_Signed.mono _ _ _)
   | (with_reducible exact LeO.refl _)
   | (with_reducible exact LeO.none _)
   | (with_reducible refine LeO.ite ?_ ?_)
   | (with_reducible refine LeO.bind ?_ (fun _ => ?_))
   | exact bits_Signed.mono _ _ _
   | exact LeO.none _
   | refine LeO.ite ?_ ?_
   | refine LeO.bind ?_ (fun _ => ?_)
set_option maxHeartbeats 8000000 in
set_option maxRecDepth 100000 in
theorem code_signed.calls (k : Nat) (a0 : Int) (a1 : Int) (a2 : Int) (r : Int) (w : World) (h : code_signed.f k a0 a1 a2 = some r) :
  Calls Tryd.prog 47 #[.int .u32 a0, .int .i64 a1, .int .i64 a2] w fun e w' => e = .returned (.int .i64 r) ∧ Drawn0 w w' := by
 have H : ((bits_Field.f a0 a1 a2).bind fun bt172 => ((bits_Signed.f k bt172.1 a2).bind fun bt174 => (some bt174.1))) = some r := h
 clear h
 replace H := Option.bind_eq_some_iff.mp H
 obtain ⟨⟨t172, t173⟩, A40, H⟩ := H
 replace H : ((bits_Signed.f k t172 a2).bind fun bt174 => (some bt174.1)) = some r := H
 have A4 := Aside0.mk A40
 clear A40
 replace H := Option.bind_eq_some_iff.mp H
 obtain ⟨⟨t174, t175⟩, A50, H⟩ := H
 replace H : (some t174) = some r := H
 have A5 := Aside0.mk A50
 clear A50
 obtain rfl := Option.some.inj H
 go_enter Tryd.func47, Tryd.ntmps47
 go_wp2_with (first | ((with_reducible refine gate_callee (f := 13) rfl ?_); refine goesL_ (some 15) rfl rfl Tryd.func13 (by kernel_rfl) rfl #[.int .u32 a0, .int .i64 a1, .int .i64 a2] rfl (by (try simp only [List.map_toArray, List.map_cons, List.map_nil]); first | done | rfl | (simp only [List.length_drop, List.length_take]; rfl)) ?_; (with_reducible refine (bits_Field.calls a0 a1 a2 t172 t173 _ A4.out).mono ?_); rintro e w' ⟨rfl, ⟨nd, rfl⟩⟩; refine ⟨_, rfl, ?_⟩) | ((with_reducible refine gate_callee (f := 48) rfl ?_); refine goesL_ (some 21) rfl rfl Tryd.func48 (by kernel_rfl) rfl #[.int .u32 t172, .int .i64 a2] rfl (by (try simp only [List.map_toArray, List.map_cons, List.map_nil]); first | done | rfl | (simp only [List.length_drop, List.length_take]; rfl)) ?_; (with_reducible refine (bits_Signed.calls k t172 a2 t174 t175 _ A5.out).mono ?_); rintro e w' ⟨rfl, ⟨nd, rfl⟩⟩; refine ⟨_, rfl, ?_⟩))
 go_ret
 exact ⟨by first | rfl | (simp; done) | (simp [*]; done), by repeat (first | exact Drawn0.refl _ | apply Drawn0.step)⟩

/-! ### code_read: function 30 -/
/-- An instruction's ten numbers. -/
structure IR where
  (op d n m a im mq sh am cn : Int)
abbrev irV (i : IR) : Value := .agg #[.int .i64 i.op, .int .i64 i.d, .int .i64 i.n, .int .i64 i.m, .int .i64 i.a, .int .i64 i.im, .int .u64 i.mq, .int .i64 i.sh, .int .i64 i.am, .int .i64 i.cn]
def readPost (r : Option IR) (en : Ending) : Prop := match r with
  | none => pnc en
  | some i => en = .returned (irV i)
/-- What a word has in the fields of its operation's shape; none: the panic. -/
def readS (k : Nat) (u op d n m s : Int) : Option (Option IR) :=
  if s = 1 then (code_part.f u 5 16).bind fun x => (code_part.f u 21 2).bind fun y => some (some ⟨op, d, 0, 0, 0, x, 0, 0, wrap64 (y * 16), 0⟩) else
  if s = 2 then (code_part.f u 10 12).bind fun x => (code_part.f u 22 1).bind fun y => some (some ⟨op, d, n, 0, 0, x, 0, 0, wrap64 (y * 12), 0⟩) else
  if s = 3 then (code_part.f u 22 1).bind fun x => (code_part.f u 16 6).bind fun y => (code_part.f u 10 6).bind fun z => (mask_Decode.f k x y z).bind fun v => if v.2 = 0 then some (some ⟨op, d, n, 0, 0, 0, v.1, 0, 0, 0⟩) else some none else
  if s = 4 ∨ s = 5 then (code_part.f u 10 6).bind fun x => (code_part.f u 22 2).bind fun y => some (some ⟨op, d, n, m, 0, 0, 0, y, x, 0⟩) else
  if s = 6 then (code_part.f u 10 5).bind fun x => some (some ⟨op, d, n, m, x, 0, 0, 0, 0, 0⟩) else
  if s = 7 then (code_part.f u 10 12).bind fun x => some (some ⟨op, d, n, 0, 0, wrap64 (x * 8), 0, 0, 0, 0⟩) else
  if s = 8 then (code_part.f u 10 12).bind fun x => some (some ⟨op, d, n, 0, 0, x, 0, 0, 0, 0⟩) else
  if s = 9 then (code_signed.f k u 5 19).bind fun x => some (some ⟨op, d, 0, 0, 0, wrap64 (x * 4), 0, 0, 0, 0⟩) else
  if s = 10 then (code_part.f u 5 19).bind fun x => (code_part.f u 29 2).bind fun y => (bits_Signed.f k ((Go.bits .or .i64 (wrap64 (x * 4)) y) % 4294967296) 21).bind fun v => some (some ⟨op, d, 0, 0, 0, v.1, 0, 0, 0, 0⟩) else
  if s = 11 then (code_signed.f k u 0 26).bind fun x => some (some ⟨op, 0, 0, 0, 0, wrap64 (x * 4), 0, 0, 0, 0⟩) else
  if s = 12 then (code_part.f u 0 4).bind fun x => (code_signed.f k u 5 19).bind fun y => some (some ⟨op, 0, 0, 0, 0, wrap64 (y * 4), 0, 0, 0, x⟩) else
  if s = 13 then some (some ⟨op, 0, n, 0, 0, 0, 0, 0, 0, 0⟩) else
  if s = 14 then (code_part.f u 5 16).bind fun x => some (some ⟨op, 0, 0, 0, 0, x, 0, 0, 0, 0⟩) else
  if s = 15 then some (some ⟨op, 0, 0, 0, 0, 0, 0, 0, 0, 0⟩) else
  if s = 16 then (code_part.f u 12 4).bind fun x => some (some ⟨op, d, n, m, 0, 0, 0, 0, 0, x⟩) else
  some none
def code_read.f (k : Nat) (u : Int) : Option (Option IR) := (code_Opcode.f u).bind fun op => (code_part.f u 0 5).bind fun d => (code_part.f u 5 5).bind fun n => (code_part.f u 16 5).bind fun m => (inst_Shape.f op).bind fun s => readS k u op d n m s
/-- The two blocks of code.read: its result's, and its instruction's. -/
structure RB (g2 gb : Nat) (I : Array Value) (w0 w : World) : Prop where
  r : w.heap[g2]? = some (.cells #[.int .i64 0, .int .i64 0, .int .i64 0, .int .i64 0, .int .i64 0, .int .i64 0, .int .u64 0, .int .i64 0, .int .i64 0, .int .i64 0] 24)
  i : w.heap[gb]? = some (.cells I 24)
  ne : g2 ≠ gb
  ne' : gb ≠ g2
  ge : w0.heap.size ≤ g2
  geb : w0.heap.size ≤ gb
  bel : Below w0.heap.size w0 w
theorem RB.after {g2 gb : Nat} {I : Array Value} {w0 w w1 : World} (h : RB g2 gb I w0 w) (hb : Below w.heap.size w w1) : RB g2 gb I w0 w1 :=
  ⟨blk_below h.r hb, blk_below h.i hb, h.ne, h.ne', h.ge, h.geb, h.bel.trans (hb.mono h.bel.size)⟩
theorem RB.put3 {g2 gb : Nat} {v0 v1 v2 v3 v4 v5 v6 v7 v8 v9 u1 u2 u3 : Value} {w0 w : World} (h : RB g2 gb #[v0, v1, v2, v3, v4, v5, v6, v7, v8, v9] w0 w) : RB g2 gb #[v0, u1, u2, u3, v4, v5, v6, v7, v8, v9] w0 (((w.setCell ⟨gb, 1, none⟩ u1).setCell ⟨gb, 2, none⟩ u2).setCell ⟨gb, 3, none⟩ u3) :=
  ⟨blk_far (blk_far (blk_far h.r h.ne _) h.ne _) h.ne _, (blk_set (blk_set (blk_set h.i 1 _) 2 _) 3 _).trans (by simp only [List.setIfInBounds_toArray, List.set_cons_zero, List.set_cons_succ]), h.ne, h.ne', h.ge, h.geb, ((h.bel.setCell (p := ⟨gb, 1, none⟩) h.geb _).setCell (p := ⟨gb, 2, none⟩) h.geb _).setCell (p := ⟨gb, 3, none⟩) h.geb _⟩
theorem stored10 {w : World} {g t : Nat} {v0 v1 v2 v3 v4 v5 v6 v7 v8 v9 u0 u1 u2 u3 u4 u5 u6 u7 u8 u9 : Value} (h : w.heap[g]? = some (.cells #[v0, v1, v2, v3, v4, v5, v6, v7, v8, v9] t (0, 0))) :
    (((((((((((w.setCell ⟨g, 0, none⟩ u0).setCell ⟨g, 1, none⟩ u1).setCell ⟨g, 2, none⟩ u2).setCell ⟨g, 3, none⟩ u3).setCell ⟨g, 4, none⟩ u4).setCell ⟨g, 5, none⟩ u5).setCell ⟨g, 6, none⟩ u6).setCell ⟨g, 7, none⟩ u7).setCell ⟨g, 8, none⟩ u8).setCell ⟨g, 9, none⟩ u9).heap[g]?) = some (.cells #[u0, u1, u2, u3, u4, u5, u6, u7, u8, u9] t (0, 0)) :=
  (blk_set (blk_set (blk_set (blk_set (blk_set (blk_set (blk_set (blk_set (blk_set (blk_set h 0 _) 1 _) 2 _) 3 _) 4 _) 5 _) 6 _) 7 _) 8 _) 9 _).trans (by simp only [List.setIfInBounds_toArray, List.set_cons_zero, List.set_cons_succ])
theorem far10 {w : World} {g b t : Nat} {cs : Array Value} {u0 u1 u2 u3 u4 u5 u6 u7 u8 u9 : Value} (h : w.heap[g]? = some (.cells cs t (0, 0))) (hne : g ≠ b) :
    (((((((((((w.setCell ⟨b, 0, none⟩ u0).setCell ⟨b, 1, none⟩ u1).setCell ⟨b, 2, none⟩ u2).setCell ⟨b, 3, none⟩ u3).setCell ⟨b, 4, none⟩ u4).setCell ⟨b, 5, none⟩ u5).setCell ⟨b, 6, none⟩ u6).setCell ⟨b, 7, none⟩ u7).setCell ⟨b, 8, none⟩ u8).setCell ⟨b, 9, none⟩ u9).heap[g]?) = some (.cells cs t (0, 0)) :=
  blk_far (blk_far (blk_far (blk_far (blk_far (blk_far (blk_far (blk_far (blk_far (blk_far h hne _) hne _) hne _) hne _) hne _) hne _) hne _) hne _) hne _) hne _
theorem below10 {B : Nat} {a w : World} {b : Nat} {u0 u1 u2 u3 u4 u5 u6 u7 u8 u9 : Value} (h : Below B a w) (hb : B ≤ b) :
    Below B a ((((((((((w.setCell ⟨b, 0, none⟩ u0).setCell ⟨b, 1, none⟩ u1).setCell ⟨b, 2, none⟩ u2).setCell ⟨b, 3, none⟩ u3).setCell ⟨b, 4, none⟩ u4).setCell ⟨b, 5, none⟩ u5).setCell ⟨b, 6, none⟩ u6).setCell ⟨b, 7, none⟩ u7).setCell ⟨b, 8, none⟩ u8).setCell ⟨b, 9, none⟩ u9) :=
  (((((((((h.setCell (p := ⟨b, 0, none⟩) hb _).setCell (p := ⟨b, 1, none⟩) hb _).setCell (p := ⟨b, 2, none⟩) hb _).setCell (p := ⟨b, 3, none⟩) hb _).setCell (p := ⟨b, 4, none⟩) hb _).setCell (p := ⟨b, 5, none⟩) hb _).setCell (p := ⟨b, 6, none⟩) hb _).setCell (p := ⟨b, 7, none⟩) hb _).setCell (p := ⟨b, 8, none⟩) hb _).setCell (p := ⟨b, 9, none⟩) hb _
theorem readS.mono (u op d n m s : Int) (k : Nat) : LeO (readS k u op d n m s) (readS (k + 1) u op d n m s) := by
  unfold readS
  repeat' first
    | (with_reducible exact code_signed.mono _ _ _ _)
    | (with_reducible exact bits_Signed.mono _ _ _)
    | (with_reducible exact mask_Decode.mono _ _ _ _)
    | (with_reducible exact LeO.refl _)
    | (with_reducible refine LeO.ite ?_ ?_)
    | (with_reducible refine LeO.bind ?_ (fun _ => ?_))
theorem code_read.mono (u : Int) (k : Nat) : LeO (code_read.f k u) (code_read.f (k + 1) u) := by
  unfold code_read.f
  exact LeO.bind (LeO.refl _) fun _ => LeO.bind (LeO.refl _) fun _ => LeO.bind (LeO.refl _) fun _ => LeO.bind (LeO.refl _) fun _ => LeO.bind (LeO.refl _) fun _ => readS.mono _ _ _ _ _ _ _
set_option maxHeartbeats 40000000 in
set_option maxRecDepth 100000 in
theorem code_read.calls (k : Nat) (u : Int) (r : Option IR) (w : World) (h : code_read.f k u = some r) (HT : Aside0 (Tabs w)) :
    Calls Tryd.prog 30 #[.int .u32 u] w fun en w' => readPost r en ∧ Below w.heap.size w w' := by
  obtain ⟨op, h1, h⟩ := Option.bind_eq_some_iff.mp h
  obtain ⟨d, h2, h⟩ := Option.bind_eq_some_iff.mp h
  obtain ⟨n, h3, h⟩ := Option.bind_eq_some_iff.mp h
  obtain ⟨m, h4, h⟩ := Option.bind_eq_some_iff.mp h
  obtain ⟨s, h5, h⟩ := Option.bind_eq_some_iff.mp h
  have H1 := Aside0.mk h1
  have H2 := Aside0.mk h2
  have H3 := Aside0.mk h3
  have H4 := Aside0.mk h4
  have H5 := Aside0.mk h5
  have HF0 := Aside0.mk h
  clear h h1 h2 h3 h4 h5
  have hz := Tryd.zeroValue24
  have hu := Tryd.underlying24
  obtain ⟨W1, hW1, HB1, BK2⟩ : ∃ W1, w.alloc (.cells #[.int .i64 0, .int .i64 (0), .int .i64 (0), .int .i64 (0), .int .i64 (0), .int .i64 (0), .int .u64 (0), .int .i64 (0), .int .i64 (0), .int .i64 (0)] 24) = W1 ∧ Aside0 (Below w.heap.size w W1) ∧ Aside0 (W1.heap[w.heap.size]? = some (.cells #[.int .i64 0, .int .i64 (0), .int .i64 (0), .int .i64 (0), .int .i64 (0), .int .i64 (0), .int .u64 (0), .int .i64 (0), .int .i64 (0), .int .i64 (0)] 24)) := ⟨_, rfl, ⟨below_alloc (Below.refl w.heap.size w) _⟩, ⟨blk_new w _⟩⟩
  go_enter Tryd.func30, Tryd.ntmps30
  go_wp2_with (fail)
  clear hW1
  refine (code_Opcode.calls u op _ H1.out (tabs_of HT HB1.out)).mono ?_
  rintro e V ⟨rfl, ⟨⟨n1, rfl⟩⟩⟩
  go_wp2_with (first | ((with_reducible refine gate_dst (N := 3) rfl ?_); refine box_event ?hg (N := 3) ?hd (cs := #[.int .i64 0, .int .i64 0, .int .i64 0, .int .i64 0, .int .i64 0, .int .i64 0, .int .u64 0, .int .i64 0, .int .i64 0, .int .i64 0]) (t := 24) ?hr ?_; (case hd => rfl); (case hg => rfl); (case hr => first | (go_simp; done) | (go_simp; rfl)); intro gb hg w6 hbox hb; obtain ⟨c0, c1, c2, c3, c4, c5, c6, c7, c8, c9⟩ := cells10 hbox; have z0 := blk_frozen hbox 0; have z1 := blk_frozen hbox 1; have z2 := blk_frozen hbox 2; have z3 := blk_frozen hbox 3; have z4 := blk_frozen hbox 4; have z5 := blk_frozen hbox 5; have z6 := blk_frozen hbox 6; have z7 := blk_frozen hbox 7; have z8 := blk_frozen hbox 8; have z9 := blk_frozen hbox 9; have HBX := Aside0.mk hbox; have HBB := Aside0.mk hb; have HGG := Aside0.mk hg; clear hbox hb hg))
  refine (code_part.calls u 0 5 d _ H2.out).mono ?_
  rintro e V ⟨rfl, hd⟩
  have HB : Aside0 (RB w.heap.size gb #[.int .i64 op, .int .i64 0, .int .i64 0, .int .i64 0, .int .i64 0, .int .i64 0, .int .u64 0, .int .i64 0, .int .i64 0, .int .i64 0] w V) := by
    have ge : w.heap.size < gb := by have := HGG.out; have := blk_lt BK2.out; have h2 : (W1.drewN n1).heap.size = W1.heap.size := rfl; omega
    have r6 := blk_below (show (W1.drewN n1).heap[w.heap.size]? = _ from BK2.out) HBB.out
    have b6 : Below w.heap.size w w6 := HB1.out.trans ((pw_below_drewN (Below.refl _ _) n1 : Below W1.heap.size W1 (W1.drewN n1)).trans HBB.out |>.mono HB1.out.size)
    exact ⟨(⟨far10 r6 (by omega), stored10 HBX.out, by omega, by omega, Nat.le_refl _, by omega, below10 b6 (by omega)⟩ : RB w.heap.size gb #[.int .i64 op, .int .i64 0, .int .i64 0, .int .i64 0, .int .i64 0, .int .i64 0, .int .u64 0, .int .i64 0, .int .i64 0, .int .i64 0] w _).after hd.below⟩
  clear hd HBX HBB HGG HB1 BK2 c0 c1 c2 c3 c4 c5 c6 c7 c8 c9 z0 z1 z2 z3 z4 z5 z6 z7 z8 z9
  go_wp2_with (fail)
  refine (code_part.calls u 5 5 n _ H3.out).mono ?_
  rintro e V2 ⟨rfl, hd⟩
  replace HB := Aside0.mk (HB.out.after hd.below)
  clear hd
  go_wp2_with (fail)
  refine (code_part.calls u 16 5 m _ H4.out).mono ?_
  rintro e V3 ⟨rfl, hd⟩
  replace HB := Aside0.mk (HB.out.after hd.below)
  clear hd
  have q0 := (blk_cell HB.out.i 0).trans rfl
  go_wp2_with (fail)
  clear q0
  refine (inst_Shape.calls op s _ H5.out (tabs_of HT HB.out.bel)).mono ?_
  rintro e V4 ⟨rfl, hd⟩
  replace HB := Aside0.mk (HB.out.after hd.below)
  clear hd H1 H2 H3 H4
  rcases shape_17 H5.out with rfl | rfl | rfl | rfl | rfl | rfl | rfl | rfl | rfl | rfl | rfl | rfl | rfl | rfl | rfl | rfl | rfl

  · -- shape 0
    obtain rfl : none = r := Option.some.inj HF0.out
    go_wp2
    exact ⟨rfl, ⟨_, _, rfl⟩, HB.out.bel⟩
  · -- shape 1
    obtain ⟨x, ex, hF⟩ := Option.bind_eq_some_iff.mp HF0.out
    have Ex := Aside0.mk ex
    clear ex
    obtain ⟨y, ey, hF⟩ := Option.bind_eq_some_iff.mp hF
    have Ey := Aside0.mk ey
    clear ey
    obtain rfl := Option.some.inj hF
    clear HF0 hF
    go_wp2_with (fail)
    refine (code_part.calls u 5 16 x _ Ex.out).mono ?_
    rintro e V5 ⟨rfl, hd⟩
    replace HB := Aside0.mk (HB.out.after hd.below)
    clear hd
    go_wp2_with (fail)
    refine (code_part.calls u 21 2 y _ Ey.out).mono ?_
    rintro e V6 ⟨rfl, hd⟩
    replace HB := Aside0.mk (HB.out.after hd.below)
    clear hd
    obtain ⟨c0, c1, c2, c3, c4, c5, c6, c7, c8, c9⟩ := cells10 HB.out.i
    obtain ⟨b0, b1, b2, b3, b4, b5, b6, b7, b8, b9⟩ := cells10 HB.out.r
    have z0 := blk_frozen HB.out.i 0
    have z1 := blk_frozen HB.out.i 1
    have z2 := blk_frozen HB.out.i 2
    have z3 := blk_frozen HB.out.i 3
    have z4 := blk_frozen HB.out.i 4
    have z5 := blk_frozen HB.out.i 5
    have z6 := blk_frozen HB.out.i 6
    have z7 := blk_frozen HB.out.i 7
    have z8 := blk_frozen HB.out.i 8
    have z9 := blk_frozen HB.out.i 9
    have f0 := blk_frozen HB.out.r 0
    have f1 := blk_frozen HB.out.r 1
    have f2 := blk_frozen HB.out.r 2
    have f3 := blk_frozen HB.out.r 3
    have f4 := blk_frozen HB.out.r 4
    have f5 := blk_frozen HB.out.r 5
    have f6 := blk_frozen HB.out.r 6
    have f7 := blk_frozen HB.out.r 7
    have f8 := blk_frozen HB.out.r 8
    have f9 := blk_frozen HB.out.r 9
    have ne1 := HB.out.ne
    have ne2 := HB.out.ne'
    go_wp2
    refine bodyPost_ret (results_cell_row rfl _ _ w.heap.size 24 #[.int .i64 op, .int .i64 (d), .int .i64 (0), .int .i64 (0), .int .i64 (0), .int .i64 (x), .int .u64 (0), .int .i64 (0), .int .i64 (wrap64 (y * 16)), .int .i64 (0)] (0, 0) _ rfl (stored10 (blk_far (blk_far (blk_far HB.out.r (p := ⟨gb, 1, none⟩) HB.out.ne _) (p := ⟨gb, 5, none⟩) HB.out.ne _) (p := ⟨gb, 8, none⟩) HB.out.ne _)) Tryd.underlying24 rfl (by kernel_rfl)) rfl ?_
    exact ⟨rfl, below10 (((HB.out.bel.setCell (p := ⟨gb, 1, none⟩) HB.out.geb _).setCell (p := ⟨gb, 5, none⟩) HB.out.geb _).setCell (p := ⟨gb, 8, none⟩) HB.out.geb _) (Nat.le_refl _)⟩
  · -- shape 2
    obtain ⟨x, ex, hF⟩ := Option.bind_eq_some_iff.mp HF0.out
    have Ex := Aside0.mk ex
    clear ex
    obtain ⟨y, ey, hF⟩ := Option.bind_eq_some_iff.mp hF
    have Ey := Aside0.mk ey
    clear ey
    obtain rfl := Option.some.inj hF
    clear HF0 hF
    go_wp2_with (fail)
    refine (code_part.calls u 10 12 x _ Ex.out).mono ?_
    rintro e V5 ⟨rfl, hd⟩
    replace HB := Aside0.mk (HB.out.after hd.below)
    clear hd
    go_wp2_with (fail)
    refine (code_part.calls u 22 1 y _ Ey.out).mono ?_
    rintro e V6 ⟨rfl, hd⟩
    replace HB := Aside0.mk (HB.out.after hd.below)
    clear hd
    obtain ⟨c0, c1, c2, c3, c4, c5, c6, c7, c8, c9⟩ := cells10 HB.out.i
    obtain ⟨b0, b1, b2, b3, b4, b5, b6, b7, b8, b9⟩ := cells10 HB.out.r
    have z0 := blk_frozen HB.out.i 0
    have z1 := blk_frozen HB.out.i 1
    have z2 := blk_frozen HB.out.i 2
    have z3 := blk_frozen HB.out.i 3
    have z4 := blk_frozen HB.out.i 4
    have z5 := blk_frozen HB.out.i 5
    have z6 := blk_frozen HB.out.i 6
    have z7 := blk_frozen HB.out.i 7
    have z8 := blk_frozen HB.out.i 8
    have z9 := blk_frozen HB.out.i 9
    have f0 := blk_frozen HB.out.r 0
    have f1 := blk_frozen HB.out.r 1
    have f2 := blk_frozen HB.out.r 2
    have f3 := blk_frozen HB.out.r 3
    have f4 := blk_frozen HB.out.r 4
    have f5 := blk_frozen HB.out.r 5
    have f6 := blk_frozen HB.out.r 6
    have f7 := blk_frozen HB.out.r 7
    have f8 := blk_frozen HB.out.r 8
    have f9 := blk_frozen HB.out.r 9
    have ne1 := HB.out.ne
    have ne2 := HB.out.ne'
    go_wp2
    refine bodyPost_ret (results_cell_row rfl _ _ w.heap.size 24 #[.int .i64 op, .int .i64 (d), .int .i64 (n), .int .i64 (0), .int .i64 (0), .int .i64 (x), .int .u64 (0), .int .i64 (0), .int .i64 (wrap64 (y * 12)), .int .i64 (0)] (0, 0) _ rfl (stored10 (blk_far (blk_far (blk_far (blk_far HB.out.r (p := ⟨gb, 1, none⟩) HB.out.ne _) (p := ⟨gb, 2, none⟩) HB.out.ne _) (p := ⟨gb, 5, none⟩) HB.out.ne _) (p := ⟨gb, 8, none⟩) HB.out.ne _)) Tryd.underlying24 rfl (by kernel_rfl)) rfl ?_
    exact ⟨rfl, below10 ((((HB.out.bel.setCell (p := ⟨gb, 1, none⟩) HB.out.geb _).setCell (p := ⟨gb, 2, none⟩) HB.out.geb _).setCell (p := ⟨gb, 5, none⟩) HB.out.geb _).setCell (p := ⟨gb, 8, none⟩) HB.out.geb _) (Nat.le_refl _)⟩
  · -- shape 3
    obtain ⟨x, ex, hF⟩ := Option.bind_eq_some_iff.mp HF0.out
    have Ex := Aside0.mk ex
    clear ex
    obtain ⟨y, ey, hF⟩ := Option.bind_eq_some_iff.mp hF
    have Ey := Aside0.mk ey
    clear ey
    obtain ⟨z, ez, hF⟩ := Option.bind_eq_some_iff.mp hF
    have Ez := Aside0.mk ez
    clear ez
    obtain ⟨⟨v, ve⟩, ev, hF⟩ := Option.bind_eq_some_iff.mp hF
    have Ev := Aside0.mk ev
    clear ev
    simp only at hF
    go_wp2_with (fail)
    refine (code_masked.calls u x y z k v ve _ Ex.out Ey.out Ez.out Ev.out).mono ?_
    rintro en V5 ⟨hen, hd⟩
    replace HB := Aside0.mk (HB.out.after hd)
    clear hd
    by_cases hve : ve = 0
    · rw [if_pos hve] at hF hen
      subst hen
      obtain rfl := Option.some.inj hF
      clear hF hve HF0
      obtain ⟨c0, c1, c2, c3, c4, c5, c6, c7, c8, c9⟩ := cells10 HB.out.i
      obtain ⟨b0, b1, b2, b3, b4, b5, b6, b7, b8, b9⟩ := cells10 HB.out.r
      have z0 := blk_frozen HB.out.i 0
      have z1 := blk_frozen HB.out.i 1
      have z2 := blk_frozen HB.out.i 2
      have z3 := blk_frozen HB.out.i 3
      have z4 := blk_frozen HB.out.i 4
      have z5 := blk_frozen HB.out.i 5
      have z6 := blk_frozen HB.out.i 6
      have z7 := blk_frozen HB.out.i 7
      have z8 := blk_frozen HB.out.i 8
      have z9 := blk_frozen HB.out.i 9
      have f0 := blk_frozen HB.out.r 0
      have f1 := blk_frozen HB.out.r 1
      have f2 := blk_frozen HB.out.r 2
      have f3 := blk_frozen HB.out.r 3
      have f4 := blk_frozen HB.out.r 4
      have f5 := blk_frozen HB.out.r 5
      have f6 := blk_frozen HB.out.r 6
      have f7 := blk_frozen HB.out.r 7
      have f8 := blk_frozen HB.out.r 8
      have f9 := blk_frozen HB.out.r 9
      have ne1 := HB.out.ne
      have ne2 := HB.out.ne'
      go_wp2
      refine bodyPost_ret (results_cell_row rfl _ _ w.heap.size 24 #[.int .i64 op, .int .i64 (d), .int .i64 (n), .int .i64 (0), .int .i64 (0), .int .i64 (0), .int .u64 (v), .int .i64 (0), .int .i64 (0), .int .i64 (0)] (0, 0) _ rfl (stored10 (blk_far (blk_far (blk_far HB.out.r (p := ⟨gb, 1, none⟩) HB.out.ne _) (p := ⟨gb, 2, none⟩) HB.out.ne _) (p := ⟨gb, 6, none⟩) HB.out.ne _)) Tryd.underlying24 rfl (by kernel_rfl)) rfl ?_
      exact ⟨rfl, below10 (((HB.out.bel.setCell (p := ⟨gb, 1, none⟩) HB.out.geb _).setCell (p := ⟨gb, 2, none⟩) HB.out.geb _).setCell (p := ⟨gb, 6, none⟩) HB.out.geb _) (Nat.le_refl _)⟩
    · rw [if_neg hve] at hF hen
      obtain rfl := Option.some.inj hF
      obtain ⟨pt, pv, rfl⟩ := hen
      clear hF hve HF0
      go_wp2
      exact ⟨rfl, ⟨_, _, rfl⟩, HB.out.bel⟩
  · -- shape 4
    obtain ⟨x, ex, hF⟩ := Option.bind_eq_some_iff.mp HF0.out
    have Ex := Aside0.mk ex
    clear ex
    obtain ⟨y, ey, hF⟩ := Option.bind_eq_some_iff.mp hF
    have Ey := Aside0.mk ey
    clear ey
    obtain rfl := Option.some.inj hF
    clear HF0 hF
    obtain ⟨c0, c1, c2, c3, c4, c5, c6, c7, c8, c9⟩ := cells10 HB.out.i
    obtain ⟨b0, b1, b2, b3, b4, b5, b6, b7, b8, b9⟩ := cells10 HB.out.r
    have z0 := blk_frozen HB.out.i 0
    have z1 := blk_frozen HB.out.i 1
    have z2 := blk_frozen HB.out.i 2
    have z3 := blk_frozen HB.out.i 3
    have z4 := blk_frozen HB.out.i 4
    have z5 := blk_frozen HB.out.i 5
    have z6 := blk_frozen HB.out.i 6
    have z7 := blk_frozen HB.out.i 7
    have z8 := blk_frozen HB.out.i 8
    have z9 := blk_frozen HB.out.i 9
    have f0 := blk_frozen HB.out.r 0
    have f1 := blk_frozen HB.out.r 1
    have f2 := blk_frozen HB.out.r 2
    have f3 := blk_frozen HB.out.r 3
    have f4 := blk_frozen HB.out.r 4
    have f5 := blk_frozen HB.out.r 5
    have f6 := blk_frozen HB.out.r 6
    have f7 := blk_frozen HB.out.r 7
    have f8 := blk_frozen HB.out.r 8
    have f9 := blk_frozen HB.out.r 9
    have ne1 := HB.out.ne
    have ne2 := HB.out.ne'
    go_wp2_with (fail)
    refine (code_part.calls u 10 6 x _ Ex.out).mono ?_
    rintro e V5 ⟨rfl, hd⟩
    replace HB := Aside0.mk (HB.out.put3.after hd.below)
    clear hd c0 c1 c2 c3 c4 c5 c6 c7 c8 c9 b0 b1 b2 b3 b4 b5 b6 b7 b8 b9 z0 z1 z2 z3 z4 z5 z6 z7 z8 z9 f0 f1 f2 f3 f4 f5 f6 f7 f8 f9 ne1 ne2
    go_wp2_with (fail)
    refine (code_part.calls u 22 2 y _ Ey.out).mono ?_
    rintro e V6 ⟨rfl, hd⟩
    replace HB := Aside0.mk (HB.out.after hd.below)
    clear hd
    obtain ⟨c0, c1, c2, c3, c4, c5, c6, c7, c8, c9⟩ := cells10 HB.out.i
    obtain ⟨b0, b1, b2, b3, b4, b5, b6, b7, b8, b9⟩ := cells10 HB.out.r
    have z0 := blk_frozen HB.out.i 0
    have z1 := blk_frozen HB.out.i 1
    have z2 := blk_frozen HB.out.i 2
    have z3 := blk_frozen HB.out.i 3
    have z4 := blk_frozen HB.out.i 4
    have z5 := blk_frozen HB.out.i 5
    have z6 := blk_frozen HB.out.i 6
    have z7 := blk_frozen HB.out.i 7
    have z8 := blk_frozen HB.out.i 8
    have z9 := blk_frozen HB.out.i 9
    have f0 := blk_frozen HB.out.r 0
    have f1 := blk_frozen HB.out.r 1
    have f2 := blk_frozen HB.out.r 2
    have f3 := blk_frozen HB.out.r 3
    have f4 := blk_frozen HB.out.r 4
    have f5 := blk_frozen HB.out.r 5
    have f6 := blk_frozen HB.out.r 6
    have f7 := blk_frozen HB.out.r 7
    have f8 := blk_frozen HB.out.r 8
    have f9 := blk_frozen HB.out.r 9
    have ne1 := HB.out.ne
    have ne2 := HB.out.ne'
    go_wp2
    refine bodyPost_ret (results_cell_row rfl _ _ w.heap.size 24 #[.int .i64 op, .int .i64 (d), .int .i64 (n), .int .i64 (m), .int .i64 (0), .int .i64 (0), .int .u64 (0), .int .i64 (y), .int .i64 (x), .int .i64 (0)] (0, 0) _ rfl (stored10 (blk_far (blk_far HB.out.r (p := ⟨gb, 8, none⟩) HB.out.ne _) (p := ⟨gb, 7, none⟩) HB.out.ne _)) Tryd.underlying24 rfl (by kernel_rfl)) rfl ?_
    exact ⟨rfl, below10 ((HB.out.bel.setCell (p := ⟨gb, 8, none⟩) HB.out.geb _).setCell (p := ⟨gb, 7, none⟩) HB.out.geb _) (Nat.le_refl _)⟩
  · -- shape 5
    obtain ⟨x, ex, hF⟩ := Option.bind_eq_some_iff.mp HF0.out
    have Ex := Aside0.mk ex
    clear ex
    obtain ⟨y, ey, hF⟩ := Option.bind_eq_some_iff.mp hF
    have Ey := Aside0.mk ey
    clear ey
    obtain rfl := Option.some.inj hF
    clear HF0 hF
    obtain ⟨c0, c1, c2, c3, c4, c5, c6, c7, c8, c9⟩ := cells10 HB.out.i
    obtain ⟨b0, b1, b2, b3, b4, b5, b6, b7, b8, b9⟩ := cells10 HB.out.r
    have z0 := blk_frozen HB.out.i 0
    have z1 := blk_frozen HB.out.i 1
    have z2 := blk_frozen HB.out.i 2
    have z3 := blk_frozen HB.out.i 3
    have z4 := blk_frozen HB.out.i 4
    have z5 := blk_frozen HB.out.i 5
    have z6 := blk_frozen HB.out.i 6
    have z7 := blk_frozen HB.out.i 7
    have z8 := blk_frozen HB.out.i 8
    have z9 := blk_frozen HB.out.i 9
    have f0 := blk_frozen HB.out.r 0
    have f1 := blk_frozen HB.out.r 1
    have f2 := blk_frozen HB.out.r 2
    have f3 := blk_frozen HB.out.r 3
    have f4 := blk_frozen HB.out.r 4
    have f5 := blk_frozen HB.out.r 5
    have f6 := blk_frozen HB.out.r 6
    have f7 := blk_frozen HB.out.r 7
    have f8 := blk_frozen HB.out.r 8
    have f9 := blk_frozen HB.out.r 9
    have ne1 := HB.out.ne
    have ne2 := HB.out.ne'
    go_wp2_with (fail)
    refine (code_part.calls u 10 6 x _ Ex.out).mono ?_
    rintro e V5 ⟨rfl, hd⟩
    replace HB := Aside0.mk (HB.out.put3.after hd.below)
    clear hd c0 c1 c2 c3 c4 c5 c6 c7 c8 c9 b0 b1 b2 b3 b4 b5 b6 b7 b8 b9 z0 z1 z2 z3 z4 z5 z6 z7 z8 z9 f0 f1 f2 f3 f4 f5 f6 f7 f8 f9 ne1 ne2
    go_wp2_with (fail)
    refine (code_part.calls u 22 2 y _ Ey.out).mono ?_
    rintro e V6 ⟨rfl, hd⟩
    replace HB := Aside0.mk (HB.out.after hd.below)
    clear hd
    obtain ⟨c0, c1, c2, c3, c4, c5, c6, c7, c8, c9⟩ := cells10 HB.out.i
    obtain ⟨b0, b1, b2, b3, b4, b5, b6, b7, b8, b9⟩ := cells10 HB.out.r
    have z0 := blk_frozen HB.out.i 0
    have z1 := blk_frozen HB.out.i 1
    have z2 := blk_frozen HB.out.i 2
    have z3 := blk_frozen HB.out.i 3
    have z4 := blk_frozen HB.out.i 4
    have z5 := blk_frozen HB.out.i 5
    have z6 := blk_frozen HB.out.i 6
    have z7 := blk_frozen HB.out.i 7
    have z8 := blk_frozen HB.out.i 8
    have z9 := blk_frozen HB.out.i 9
    have f0 := blk_frozen HB.out.r 0
    have f1 := blk_frozen HB.out.r 1
    have f2 := blk_frozen HB.out.r 2
    have f3 := blk_frozen HB.out.r 3
    have f4 := blk_frozen HB.out.r 4
    have f5 := blk_frozen HB.out.r 5
    have f6 := blk_frozen HB.out.r 6
    have f7 := blk_frozen HB.out.r 7
    have f8 := blk_frozen HB.out.r 8
    have f9 := blk_frozen HB.out.r 9
    have ne1 := HB.out.ne
    have ne2 := HB.out.ne'
    go_wp2
    refine bodyPost_ret (results_cell_row rfl _ _ w.heap.size 24 #[.int .i64 op, .int .i64 (d), .int .i64 (n), .int .i64 (m), .int .i64 (0), .int .i64 (0), .int .u64 (0), .int .i64 (y), .int .i64 (x), .int .i64 (0)] (0, 0) _ rfl (stored10 (blk_far (blk_far HB.out.r (p := ⟨gb, 8, none⟩) HB.out.ne _) (p := ⟨gb, 7, none⟩) HB.out.ne _)) Tryd.underlying24 rfl (by kernel_rfl)) rfl ?_
    exact ⟨rfl, below10 ((HB.out.bel.setCell (p := ⟨gb, 8, none⟩) HB.out.geb _).setCell (p := ⟨gb, 7, none⟩) HB.out.geb _) (Nat.le_refl _)⟩
  · -- shape 6
    obtain ⟨x, ex, hF⟩ := Option.bind_eq_some_iff.mp HF0.out
    have Ex := Aside0.mk ex
    clear ex
    obtain rfl := Option.some.inj hF
    clear HF0 hF
    go_wp2_with (fail)
    refine (code_part.calls u 10 5 x _ Ex.out).mono ?_
    rintro e V5 ⟨rfl, hd⟩
    replace HB := Aside0.mk (HB.out.after hd.below)
    clear hd
    obtain ⟨c0, c1, c2, c3, c4, c5, c6, c7, c8, c9⟩ := cells10 HB.out.i
    obtain ⟨b0, b1, b2, b3, b4, b5, b6, b7, b8, b9⟩ := cells10 HB.out.r
    have z0 := blk_frozen HB.out.i 0
    have z1 := blk_frozen HB.out.i 1
    have z2 := blk_frozen HB.out.i 2
    have z3 := blk_frozen HB.out.i 3
    have z4 := blk_frozen HB.out.i 4
    have z5 := blk_frozen HB.out.i 5
    have z6 := blk_frozen HB.out.i 6
    have z7 := blk_frozen HB.out.i 7
    have z8 := blk_frozen HB.out.i 8
    have z9 := blk_frozen HB.out.i 9
    have f0 := blk_frozen HB.out.r 0
    have f1 := blk_frozen HB.out.r 1
    have f2 := blk_frozen HB.out.r 2
    have f3 := blk_frozen HB.out.r 3
    have f4 := blk_frozen HB.out.r 4
    have f5 := blk_frozen HB.out.r 5
    have f6 := blk_frozen HB.out.r 6
    have f7 := blk_frozen HB.out.r 7
    have f8 := blk_frozen HB.out.r 8
    have f9 := blk_frozen HB.out.r 9
    have ne1 := HB.out.ne
    have ne2 := HB.out.ne'
    go_wp2
    refine bodyPost_ret (results_cell_row rfl _ _ w.heap.size 24 #[.int .i64 op, .int .i64 (d), .int .i64 (n), .int .i64 (m), .int .i64 (x), .int .i64 (0), .int .u64 (0), .int .i64 (0), .int .i64 (0), .int .i64 (0)] (0, 0) _ rfl (stored10 (blk_far (blk_far (blk_far (blk_far HB.out.r (p := ⟨gb, 1, none⟩) HB.out.ne _) (p := ⟨gb, 2, none⟩) HB.out.ne _) (p := ⟨gb, 3, none⟩) HB.out.ne _) (p := ⟨gb, 4, none⟩) HB.out.ne _)) Tryd.underlying24 rfl (by kernel_rfl)) rfl ?_
    exact ⟨rfl, below10 ((((HB.out.bel.setCell (p := ⟨gb, 1, none⟩) HB.out.geb _).setCell (p := ⟨gb, 2, none⟩) HB.out.geb _).setCell (p := ⟨gb, 3, none⟩) HB.out.geb _).setCell (p := ⟨gb, 4, none⟩) HB.out.geb _) (Nat.le_refl _)⟩
  · -- shape 7
    obtain ⟨x, ex, hF⟩ := Option.bind_eq_some_iff.mp HF0.out
    have Ex := Aside0.mk ex
    clear ex
    obtain rfl := Option.some.inj hF
    clear HF0 hF
    go_wp2_with (fail)
    refine (code_part.calls u 10 12 x _ Ex.out).mono ?_
    rintro e V5 ⟨rfl, hd⟩
    replace HB := Aside0.mk (HB.out.after hd.below)
    clear hd
    obtain ⟨c0, c1, c2, c3, c4, c5, c6, c7, c8, c9⟩ := cells10 HB.out.i
    obtain ⟨b0, b1, b2, b3, b4, b5, b6, b7, b8, b9⟩ := cells10 HB.out.r
    have z0 := blk_frozen HB.out.i 0
    have z1 := blk_frozen HB.out.i 1
    have z2 := blk_frozen HB.out.i 2
    have z3 := blk_frozen HB.out.i 3
    have z4 := blk_frozen HB.out.i 4
    have z5 := blk_frozen HB.out.i 5
    have z6 := blk_frozen HB.out.i 6
    have z7 := blk_frozen HB.out.i 7
    have z8 := blk_frozen HB.out.i 8
    have z9 := blk_frozen HB.out.i 9
    have f0 := blk_frozen HB.out.r 0
    have f1 := blk_frozen HB.out.r 1
    have f2 := blk_frozen HB.out.r 2
    have f3 := blk_frozen HB.out.r 3
    have f4 := blk_frozen HB.out.r 4
    have f5 := blk_frozen HB.out.r 5
    have f6 := blk_frozen HB.out.r 6
    have f7 := blk_frozen HB.out.r 7
    have f8 := blk_frozen HB.out.r 8
    have f9 := blk_frozen HB.out.r 9
    have ne1 := HB.out.ne
    have ne2 := HB.out.ne'
    go_wp2
    refine bodyPost_ret (results_cell_row rfl _ _ w.heap.size 24 #[.int .i64 op, .int .i64 (d), .int .i64 (n), .int .i64 (0), .int .i64 (0), .int .i64 (wrap64 (x * 8)), .int .u64 (0), .int .i64 (0), .int .i64 (0), .int .i64 (0)] (0, 0) _ rfl (stored10 (blk_far (blk_far (blk_far HB.out.r (p := ⟨gb, 1, none⟩) HB.out.ne _) (p := ⟨gb, 2, none⟩) HB.out.ne _) (p := ⟨gb, 5, none⟩) HB.out.ne _)) Tryd.underlying24 rfl (by kernel_rfl)) rfl ?_
    exact ⟨rfl, below10 (((HB.out.bel.setCell (p := ⟨gb, 1, none⟩) HB.out.geb _).setCell (p := ⟨gb, 2, none⟩) HB.out.geb _).setCell (p := ⟨gb, 5, none⟩) HB.out.geb _) (Nat.le_refl _)⟩
  · -- shape 8
    obtain ⟨x, ex, hF⟩ := Option.bind_eq_some_iff.mp HF0.out
    have Ex := Aside0.mk ex
    clear ex
    obtain rfl := Option.some.inj hF
    clear HF0 hF
    go_wp2_with (fail)
    refine (code_part.calls u 10 12 x _ Ex.out).mono ?_
    rintro e V5 ⟨rfl, hd⟩
    replace HB := Aside0.mk (HB.out.after hd.below)
    clear hd
    obtain ⟨c0, c1, c2, c3, c4, c5, c6, c7, c8, c9⟩ := cells10 HB.out.i
    obtain ⟨b0, b1, b2, b3, b4, b5, b6, b7, b8, b9⟩ := cells10 HB.out.r
    have z0 := blk_frozen HB.out.i 0
    have z1 := blk_frozen HB.out.i 1
    have z2 := blk_frozen HB.out.i 2
    have z3 := blk_frozen HB.out.i 3
    have z4 := blk_frozen HB.out.i 4
    have z5 := blk_frozen HB.out.i 5
    have z6 := blk_frozen HB.out.i 6
    have z7 := blk_frozen HB.out.i 7
    have z8 := blk_frozen HB.out.i 8
    have z9 := blk_frozen HB.out.i 9
    have f0 := blk_frozen HB.out.r 0
    have f1 := blk_frozen HB.out.r 1
    have f2 := blk_frozen HB.out.r 2
    have f3 := blk_frozen HB.out.r 3
    have f4 := blk_frozen HB.out.r 4
    have f5 := blk_frozen HB.out.r 5
    have f6 := blk_frozen HB.out.r 6
    have f7 := blk_frozen HB.out.r 7
    have f8 := blk_frozen HB.out.r 8
    have f9 := blk_frozen HB.out.r 9
    have ne1 := HB.out.ne
    have ne2 := HB.out.ne'
    go_wp2
    refine bodyPost_ret (results_cell_row rfl _ _ w.heap.size 24 #[.int .i64 op, .int .i64 (d), .int .i64 (n), .int .i64 (0), .int .i64 (0), .int .i64 (x), .int .u64 (0), .int .i64 (0), .int .i64 (0), .int .i64 (0)] (0, 0) _ rfl (stored10 (blk_far (blk_far (blk_far HB.out.r (p := ⟨gb, 1, none⟩) HB.out.ne _) (p := ⟨gb, 2, none⟩) HB.out.ne _) (p := ⟨gb, 5, none⟩) HB.out.ne _)) Tryd.underlying24 rfl (by kernel_rfl)) rfl ?_
    exact ⟨rfl, below10 (((HB.out.bel.setCell (p := ⟨gb, 1, none⟩) HB.out.geb _).setCell (p := ⟨gb, 2, none⟩) HB.out.geb _).setCell (p := ⟨gb, 5, none⟩) HB.out.geb _) (Nat.le_refl _)⟩
  · -- shape 9
    obtain ⟨x, ex, hF⟩ := Option.bind_eq_some_iff.mp HF0.out
    have Ex := Aside0.mk ex
    clear ex
    obtain rfl := Option.some.inj hF
    clear HF0 hF
    go_wp2_with (fail)
    refine (code_signed.calls k u 5 19 x _ Ex.out).mono ?_
    rintro e V5 ⟨rfl, hd⟩
    replace HB := Aside0.mk (HB.out.after hd.below)
    clear hd
    obtain ⟨c0, c1, c2, c3, c4, c5, c6, c7, c8, c9⟩ := cells10 HB.out.i
    obtain ⟨b0, b1, b2, b3, b4, b5, b6, b7, b8, b9⟩ := cells10 HB.out.r
    have z0 := blk_frozen HB.out.i 0
    have z1 := blk_frozen HB.out.i 1
    have z2 := blk_frozen HB.out.i 2
    have z3 := blk_frozen HB.out.i 3
    have z4 := blk_frozen HB.out.i 4
    have z5 := blk_frozen HB.out.i 5
    have z6 := blk_frozen HB.out.i 6
    have z7 := blk_frozen HB.out.i 7
    have z8 := blk_frozen HB.out.i 8
    have z9 := blk_frozen HB.out.i 9
    have f0 := blk_frozen HB.out.r 0
    have f1 := blk_frozen HB.out.r 1
    have f2 := blk_frozen HB.out.r 2
    have f3 := blk_frozen HB.out.r 3
    have f4 := blk_frozen HB.out.r 4
    have f5 := blk_frozen HB.out.r 5
    have f6 := blk_frozen HB.out.r 6
    have f7 := blk_frozen HB.out.r 7
    have f8 := blk_frozen HB.out.r 8
    have f9 := blk_frozen HB.out.r 9
    have ne1 := HB.out.ne
    have ne2 := HB.out.ne'
    go_wp2
    refine bodyPost_ret (results_cell_row rfl _ _ w.heap.size 24 #[.int .i64 op, .int .i64 (d), .int .i64 (0), .int .i64 (0), .int .i64 (0), .int .i64 (wrap64 (x * 4)), .int .u64 (0), .int .i64 (0), .int .i64 (0), .int .i64 (0)] (0, 0) _ rfl (stored10 (blk_far (blk_far HB.out.r (p := ⟨gb, 1, none⟩) HB.out.ne _) (p := ⟨gb, 5, none⟩) HB.out.ne _)) Tryd.underlying24 rfl (by kernel_rfl)) rfl ?_
    exact ⟨rfl, below10 ((HB.out.bel.setCell (p := ⟨gb, 1, none⟩) HB.out.geb _).setCell (p := ⟨gb, 5, none⟩) HB.out.geb _) (Nat.le_refl _)⟩
  · -- shape 10
    obtain ⟨x, ex, hF⟩ := Option.bind_eq_some_iff.mp HF0.out
    have Ex := Aside0.mk ex
    clear ex
    obtain ⟨y, ey, hF⟩ := Option.bind_eq_some_iff.mp hF
    have Ey := Aside0.mk ey
    clear ey
    obtain ⟨⟨v, ve⟩, ev, hF⟩ := Option.bind_eq_some_iff.mp hF
    have Ev := Aside0.mk ev
    clear ev
    obtain rfl := Option.some.inj hF
    clear HF0 hF
    go_wp2_with (fail)
    refine (code_part.calls u 5 19 x _ Ex.out).mono ?_
    rintro e V5 ⟨rfl, hd⟩
    replace HB := Aside0.mk (HB.out.after hd.below)
    clear hd
    go_wp2_with (fail)
    refine (code_part.calls u 29 2 y _ Ey.out).mono ?_
    rintro e V6 ⟨rfl, hd⟩
    replace HB := Aside0.mk (HB.out.after hd.below)
    clear hd
    go_wp2_with (fail)
    refine (bits_Signed.calls k _ 21 v ve _ Ev.out).mono ?_
    rintro e V7 ⟨rfl, hd⟩
    replace HB := Aside0.mk (HB.out.after hd.below)
    clear hd
    obtain ⟨c0, c1, c2, c3, c4, c5, c6, c7, c8, c9⟩ := cells10 HB.out.i
    obtain ⟨b0, b1, b2, b3, b4, b5, b6, b7, b8, b9⟩ := cells10 HB.out.r
    have z0 := blk_frozen HB.out.i 0
    have z1 := blk_frozen HB.out.i 1
    have z2 := blk_frozen HB.out.i 2
    have z3 := blk_frozen HB.out.i 3
    have z4 := blk_frozen HB.out.i 4
    have z5 := blk_frozen HB.out.i 5
    have z6 := blk_frozen HB.out.i 6
    have z7 := blk_frozen HB.out.i 7
    have z8 := blk_frozen HB.out.i 8
    have z9 := blk_frozen HB.out.i 9
    have f0 := blk_frozen HB.out.r 0
    have f1 := blk_frozen HB.out.r 1
    have f2 := blk_frozen HB.out.r 2
    have f3 := blk_frozen HB.out.r 3
    have f4 := blk_frozen HB.out.r 4
    have f5 := blk_frozen HB.out.r 5
    have f6 := blk_frozen HB.out.r 6
    have f7 := blk_frozen HB.out.r 7
    have f8 := blk_frozen HB.out.r 8
    have f9 := blk_frozen HB.out.r 9
    have ne1 := HB.out.ne
    have ne2 := HB.out.ne'
    go_wp2
    refine bodyPost_ret (results_cell_row rfl _ _ w.heap.size 24 #[.int .i64 op, .int .i64 (d), .int .i64 (0), .int .i64 (0), .int .i64 (0), .int .i64 (v), .int .u64 (0), .int .i64 (0), .int .i64 (0), .int .i64 (0)] (0, 0) _ rfl (stored10 (blk_far (blk_far HB.out.r (p := ⟨gb, 1, none⟩) HB.out.ne _) (p := ⟨gb, 5, none⟩) HB.out.ne _)) Tryd.underlying24 rfl (by kernel_rfl)) rfl ?_
    exact ⟨rfl, below10 ((HB.out.bel.setCell (p := ⟨gb, 1, none⟩) HB.out.geb _).setCell (p := ⟨gb, 5, none⟩) HB.out.geb _) (Nat.le_refl _)⟩
  · -- shape 11
    obtain ⟨x, ex, hF⟩ := Option.bind_eq_some_iff.mp HF0.out
    have Ex := Aside0.mk ex
    clear ex
    obtain rfl := Option.some.inj hF
    clear HF0 hF
    go_wp2_with (fail)
    refine (code_signed.calls k u 0 26 x _ Ex.out).mono ?_
    rintro e V5 ⟨rfl, hd⟩
    replace HB := Aside0.mk (HB.out.after hd.below)
    clear hd
    obtain ⟨c0, c1, c2, c3, c4, c5, c6, c7, c8, c9⟩ := cells10 HB.out.i
    obtain ⟨b0, b1, b2, b3, b4, b5, b6, b7, b8, b9⟩ := cells10 HB.out.r
    have z0 := blk_frozen HB.out.i 0
    have z1 := blk_frozen HB.out.i 1
    have z2 := blk_frozen HB.out.i 2
    have z3 := blk_frozen HB.out.i 3
    have z4 := blk_frozen HB.out.i 4
    have z5 := blk_frozen HB.out.i 5
    have z6 := blk_frozen HB.out.i 6
    have z7 := blk_frozen HB.out.i 7
    have z8 := blk_frozen HB.out.i 8
    have z9 := blk_frozen HB.out.i 9
    have f0 := blk_frozen HB.out.r 0
    have f1 := blk_frozen HB.out.r 1
    have f2 := blk_frozen HB.out.r 2
    have f3 := blk_frozen HB.out.r 3
    have f4 := blk_frozen HB.out.r 4
    have f5 := blk_frozen HB.out.r 5
    have f6 := blk_frozen HB.out.r 6
    have f7 := blk_frozen HB.out.r 7
    have f8 := blk_frozen HB.out.r 8
    have f9 := blk_frozen HB.out.r 9
    have ne1 := HB.out.ne
    have ne2 := HB.out.ne'
    go_wp2
    refine bodyPost_ret (results_cell_row rfl _ _ w.heap.size 24 #[.int .i64 op, .int .i64 (0), .int .i64 (0), .int .i64 (0), .int .i64 (0), .int .i64 (wrap64 (x * 4)), .int .u64 (0), .int .i64 (0), .int .i64 (0), .int .i64 (0)] (0, 0) _ rfl (stored10 (blk_far HB.out.r (p := ⟨gb, 5, none⟩) HB.out.ne _)) Tryd.underlying24 rfl (by kernel_rfl)) rfl ?_
    exact ⟨rfl, below10 (HB.out.bel.setCell (p := ⟨gb, 5, none⟩) HB.out.geb _) (Nat.le_refl _)⟩
  · -- shape 12
    obtain ⟨x, ex, hF⟩ := Option.bind_eq_some_iff.mp HF0.out
    have Ex := Aside0.mk ex
    clear ex
    obtain ⟨y, ey, hF⟩ := Option.bind_eq_some_iff.mp hF
    have Ey := Aside0.mk ey
    clear ey
    obtain rfl := Option.some.inj hF
    clear HF0 hF
    go_wp2_with (fail)
    refine (code_part.calls u 0 4 x _ Ex.out).mono ?_
    rintro e V5 ⟨rfl, hd⟩
    replace HB := Aside0.mk (HB.out.after hd.below)
    clear hd
    go_wp2_with (fail)
    refine (code_signed.calls k u 5 19 y _ Ey.out).mono ?_
    rintro e V6 ⟨rfl, hd⟩
    replace HB := Aside0.mk (HB.out.after hd.below)
    clear hd
    obtain ⟨c0, c1, c2, c3, c4, c5, c6, c7, c8, c9⟩ := cells10 HB.out.i
    obtain ⟨b0, b1, b2, b3, b4, b5, b6, b7, b8, b9⟩ := cells10 HB.out.r
    have z0 := blk_frozen HB.out.i 0
    have z1 := blk_frozen HB.out.i 1
    have z2 := blk_frozen HB.out.i 2
    have z3 := blk_frozen HB.out.i 3
    have z4 := blk_frozen HB.out.i 4
    have z5 := blk_frozen HB.out.i 5
    have z6 := blk_frozen HB.out.i 6
    have z7 := blk_frozen HB.out.i 7
    have z8 := blk_frozen HB.out.i 8
    have z9 := blk_frozen HB.out.i 9
    have f0 := blk_frozen HB.out.r 0
    have f1 := blk_frozen HB.out.r 1
    have f2 := blk_frozen HB.out.r 2
    have f3 := blk_frozen HB.out.r 3
    have f4 := blk_frozen HB.out.r 4
    have f5 := blk_frozen HB.out.r 5
    have f6 := blk_frozen HB.out.r 6
    have f7 := blk_frozen HB.out.r 7
    have f8 := blk_frozen HB.out.r 8
    have f9 := blk_frozen HB.out.r 9
    have ne1 := HB.out.ne
    have ne2 := HB.out.ne'
    go_wp2
    refine bodyPost_ret (results_cell_row rfl _ _ w.heap.size 24 #[.int .i64 op, .int .i64 (0), .int .i64 (0), .int .i64 (0), .int .i64 (0), .int .i64 (wrap64 (y * 4)), .int .u64 (0), .int .i64 (0), .int .i64 (0), .int .i64 (x)] (0, 0) _ rfl (stored10 (blk_far (blk_far HB.out.r (p := ⟨gb, 9, none⟩) HB.out.ne _) (p := ⟨gb, 5, none⟩) HB.out.ne _)) Tryd.underlying24 rfl (by kernel_rfl)) rfl ?_
    exact ⟨rfl, below10 ((HB.out.bel.setCell (p := ⟨gb, 9, none⟩) HB.out.geb _).setCell (p := ⟨gb, 5, none⟩) HB.out.geb _) (Nat.le_refl _)⟩
  · -- shape 13
    obtain rfl := Option.some.inj HF0.out
    clear HF0
    obtain ⟨c0, c1, c2, c3, c4, c5, c6, c7, c8, c9⟩ := cells10 HB.out.i
    obtain ⟨b0, b1, b2, b3, b4, b5, b6, b7, b8, b9⟩ := cells10 HB.out.r
    have z0 := blk_frozen HB.out.i 0
    have z1 := blk_frozen HB.out.i 1
    have z2 := blk_frozen HB.out.i 2
    have z3 := blk_frozen HB.out.i 3
    have z4 := blk_frozen HB.out.i 4
    have z5 := blk_frozen HB.out.i 5
    have z6 := blk_frozen HB.out.i 6
    have z7 := blk_frozen HB.out.i 7
    have z8 := blk_frozen HB.out.i 8
    have z9 := blk_frozen HB.out.i 9
    have f0 := blk_frozen HB.out.r 0
    have f1 := blk_frozen HB.out.r 1
    have f2 := blk_frozen HB.out.r 2
    have f3 := blk_frozen HB.out.r 3
    have f4 := blk_frozen HB.out.r 4
    have f5 := blk_frozen HB.out.r 5
    have f6 := blk_frozen HB.out.r 6
    have f7 := blk_frozen HB.out.r 7
    have f8 := blk_frozen HB.out.r 8
    have f9 := blk_frozen HB.out.r 9
    have ne1 := HB.out.ne
    have ne2 := HB.out.ne'
    go_wp2
    refine bodyPost_ret (results_cell_row rfl _ _ w.heap.size 24 #[.int .i64 op, .int .i64 (0), .int .i64 (n), .int .i64 (0), .int .i64 (0), .int .i64 (0), .int .u64 (0), .int .i64 (0), .int .i64 (0), .int .i64 (0)] (0, 0) _ rfl (stored10 (blk_far HB.out.r (p := ⟨gb, 2, none⟩) HB.out.ne _)) Tryd.underlying24 rfl (by kernel_rfl)) rfl ?_
    exact ⟨rfl, below10 (HB.out.bel.setCell (p := ⟨gb, 2, none⟩) HB.out.geb _) (Nat.le_refl _)⟩
  · -- shape 14
    obtain ⟨x, ex, hF⟩ := Option.bind_eq_some_iff.mp HF0.out
    have Ex := Aside0.mk ex
    clear ex
    obtain rfl := Option.some.inj hF
    clear HF0 hF
    go_wp2_with (fail)
    refine (code_part.calls u 5 16 x _ Ex.out).mono ?_
    rintro e V5 ⟨rfl, hd⟩
    replace HB := Aside0.mk (HB.out.after hd.below)
    clear hd
    obtain ⟨c0, c1, c2, c3, c4, c5, c6, c7, c8, c9⟩ := cells10 HB.out.i
    obtain ⟨b0, b1, b2, b3, b4, b5, b6, b7, b8, b9⟩ := cells10 HB.out.r
    have z0 := blk_frozen HB.out.i 0
    have z1 := blk_frozen HB.out.i 1
    have z2 := blk_frozen HB.out.i 2
    have z3 := blk_frozen HB.out.i 3
    have z4 := blk_frozen HB.out.i 4
    have z5 := blk_frozen HB.out.i 5
    have z6 := blk_frozen HB.out.i 6
    have z7 := blk_frozen HB.out.i 7
    have z8 := blk_frozen HB.out.i 8
    have z9 := blk_frozen HB.out.i 9
    have f0 := blk_frozen HB.out.r 0
    have f1 := blk_frozen HB.out.r 1
    have f2 := blk_frozen HB.out.r 2
    have f3 := blk_frozen HB.out.r 3
    have f4 := blk_frozen HB.out.r 4
    have f5 := blk_frozen HB.out.r 5
    have f6 := blk_frozen HB.out.r 6
    have f7 := blk_frozen HB.out.r 7
    have f8 := blk_frozen HB.out.r 8
    have f9 := blk_frozen HB.out.r 9
    have ne1 := HB.out.ne
    have ne2 := HB.out.ne'
    go_wp2
    refine bodyPost_ret (results_cell_row rfl _ _ w.heap.size 24 #[.int .i64 op, .int .i64 (0), .int .i64 (0), .int .i64 (0), .int .i64 (0), .int .i64 (x), .int .u64 (0), .int .i64 (0), .int .i64 (0), .int .i64 (0)] (0, 0) _ rfl (stored10 (blk_far HB.out.r (p := ⟨gb, 5, none⟩) HB.out.ne _)) Tryd.underlying24 rfl (by kernel_rfl)) rfl ?_
    exact ⟨rfl, below10 (HB.out.bel.setCell (p := ⟨gb, 5, none⟩) HB.out.geb _) (Nat.le_refl _)⟩
  · -- shape 15
    obtain rfl := Option.some.inj HF0.out
    clear HF0
    obtain ⟨c0, c1, c2, c3, c4, c5, c6, c7, c8, c9⟩ := cells10 HB.out.i
    obtain ⟨b0, b1, b2, b3, b4, b5, b6, b7, b8, b9⟩ := cells10 HB.out.r
    have z0 := blk_frozen HB.out.i 0
    have z1 := blk_frozen HB.out.i 1
    have z2 := blk_frozen HB.out.i 2
    have z3 := blk_frozen HB.out.i 3
    have z4 := blk_frozen HB.out.i 4
    have z5 := blk_frozen HB.out.i 5
    have z6 := blk_frozen HB.out.i 6
    have z7 := blk_frozen HB.out.i 7
    have z8 := blk_frozen HB.out.i 8
    have z9 := blk_frozen HB.out.i 9
    have f0 := blk_frozen HB.out.r 0
    have f1 := blk_frozen HB.out.r 1
    have f2 := blk_frozen HB.out.r 2
    have f3 := blk_frozen HB.out.r 3
    have f4 := blk_frozen HB.out.r 4
    have f5 := blk_frozen HB.out.r 5
    have f6 := blk_frozen HB.out.r 6
    have f7 := blk_frozen HB.out.r 7
    have f8 := blk_frozen HB.out.r 8
    have f9 := blk_frozen HB.out.r 9
    have ne1 := HB.out.ne
    have ne2 := HB.out.ne'
    go_wp2
    refine bodyPost_ret (results_cell_row rfl _ _ w.heap.size 24 #[.int .i64 op, .int .i64 (0), .int .i64 (0), .int .i64 (0), .int .i64 (0), .int .i64 (0), .int .u64 (0), .int .i64 (0), .int .i64 (0), .int .i64 (0)] (0, 0) _ rfl (stored10 HB.out.r) Tryd.underlying24 rfl (by kernel_rfl)) rfl ?_
    exact ⟨rfl, below10 HB.out.bel (Nat.le_refl _)⟩
  · -- shape 16
    obtain ⟨x, ex, hF⟩ := Option.bind_eq_some_iff.mp HF0.out
    have Ex := Aside0.mk ex
    clear ex
    obtain rfl := Option.some.inj hF
    clear HF0 hF
    go_wp2_with (fail)
    refine (code_part.calls u 12 4 x _ Ex.out).mono ?_
    rintro e V5 ⟨rfl, hd⟩
    replace HB := Aside0.mk (HB.out.after hd.below)
    clear hd
    obtain ⟨c0, c1, c2, c3, c4, c5, c6, c7, c8, c9⟩ := cells10 HB.out.i
    obtain ⟨b0, b1, b2, b3, b4, b5, b6, b7, b8, b9⟩ := cells10 HB.out.r
    have z0 := blk_frozen HB.out.i 0
    have z1 := blk_frozen HB.out.i 1
    have z2 := blk_frozen HB.out.i 2
    have z3 := blk_frozen HB.out.i 3
    have z4 := blk_frozen HB.out.i 4
    have z5 := blk_frozen HB.out.i 5
    have z6 := blk_frozen HB.out.i 6
    have z7 := blk_frozen HB.out.i 7
    have z8 := blk_frozen HB.out.i 8
    have z9 := blk_frozen HB.out.i 9
    have f0 := blk_frozen HB.out.r 0
    have f1 := blk_frozen HB.out.r 1
    have f2 := blk_frozen HB.out.r 2
    have f3 := blk_frozen HB.out.r 3
    have f4 := blk_frozen HB.out.r 4
    have f5 := blk_frozen HB.out.r 5
    have f6 := blk_frozen HB.out.r 6
    have f7 := blk_frozen HB.out.r 7
    have f8 := blk_frozen HB.out.r 8
    have f9 := blk_frozen HB.out.r 9
    have ne1 := HB.out.ne
    have ne2 := HB.out.ne'
    go_wp2
    refine bodyPost_ret (results_cell_row rfl _ _ w.heap.size 24 #[.int .i64 op, .int .i64 (d), .int .i64 (n), .int .i64 (m), .int .i64 (0), .int .i64 (0), .int .u64 (0), .int .i64 (0), .int .i64 (0), .int .i64 (x)] (0, 0) _ rfl (stored10 (blk_far (blk_far (blk_far (blk_far HB.out.r (p := ⟨gb, 1, none⟩) HB.out.ne _) (p := ⟨gb, 2, none⟩) HB.out.ne _) (p := ⟨gb, 3, none⟩) HB.out.ne _) (p := ⟨gb, 9, none⟩) HB.out.ne _)) Tryd.underlying24 rfl (by kernel_rfl)) rfl ?_
    exact ⟨rfl, below10 ((((HB.out.bel.setCell (p := ⟨gb, 1, none⟩) HB.out.geb _).setCell (p := ⟨gb, 2, none⟩) HB.out.geb _).setCell (p := ⟨gb, 3, none⟩) HB.out.geb _).setCell (p := ⟨gb, 9, none⟩) HB.out.geb _) (Nat.le_refl _)⟩

end Go.Proofs.YtemenenkefcebaaDoor.P
