-- printed by wip/tools/myprint.py out of the translation. Not trusted: Lean checks it.
import Derived.Test.YtemenenkefcebaaDoorPx0
import Derived.Test.YtemenenkefcebaaDoorPx2
import Derived.Test.YtemenenkefcebaaDoorPx5
namespace Go.Proofs.YtemenenkefcebaaDoor.P
open Go.RowKit Go.Proofs.YtemenenkefcebaaDoorW.PrintWords Go.Proofs.YtemenenkefcebaaDoorW.PrintLast Go.Proofs.YtemenenkefcebaaDoorW.PrintMore
attribute [local go_sem] max2_int min2_int max_two min_two max_three min_three max_four min_four   -- for this text's walks alone
set_option linter.unusedVariables false
set_option linter.unusedSimpArgs false

/-! ### code_filled: function 22 -/
/-- What stands in a right instruction's fields, by its shape. -/
def fillS (k : Nat) (s d n m a im mk sh am cn : Int) : Option Int :=
  if s = 1 then code_word.f k ([(⟨0, 5, d % 4294967296⟩ : S64), (⟨5, 16, im % 4294967296⟩ : S64), (⟨21, 2, (wrap64 (Int.tdiv am 16)) % 4294967296⟩ : S64)] : List S64) else
  if s = 2 then code_word.f k ([(⟨0, 5, d % 4294967296⟩ : S64), (⟨5, 5, n % 4294967296⟩ : S64), (⟨10, 12, im % 4294967296⟩ : S64), (⟨22, 1, (wrap64 (Int.tdiv am 12)) % 4294967296⟩ : S64)] : List S64) else
  if s = 3 then (mask_Encode.f k mk).bind fun x => code_word.f k ([(⟨0, 5, d % 4294967296⟩ : S64), (⟨5, 5, n % 4294967296⟩ : S64), (⟨10, 6, x.2.2.1 % 4294967296⟩ : S64), (⟨16, 6, x.2.1 % 4294967296⟩ : S64), (⟨22, 1, x.1 % 4294967296⟩ : S64)] : List S64) else
  if s = 4 ∨ s = 5 then code_word.f k ([(⟨0, 5, d % 4294967296⟩ : S64), (⟨5, 5, n % 4294967296⟩ : S64), (⟨10, 6, am % 4294967296⟩ : S64), (⟨16, 5, m % 4294967296⟩ : S64), (⟨22, 2, sh % 4294967296⟩ : S64)] : List S64) else
  if s = 6 then code_word.f k ([(⟨0, 5, d % 4294967296⟩ : S64), (⟨5, 5, n % 4294967296⟩ : S64), (⟨10, 5, a % 4294967296⟩ : S64), (⟨16, 5, m % 4294967296⟩ : S64)] : List S64) else
  if s = 7 then code_word.f k ([(⟨0, 5, d % 4294967296⟩ : S64), (⟨5, 5, n % 4294967296⟩ : S64), (⟨10, 12, (wrap64 (Int.tdiv im 8)) % 4294967296⟩ : S64)] : List S64) else
  if s = 8 then code_word.f k ([(⟨0, 5, d % 4294967296⟩ : S64), (⟨5, 5, n % 4294967296⟩ : S64), (⟨10, 12, im % 4294967296⟩ : S64)] : List S64) else
  if s = 9 then (code_packed.f k 5 19 (wrap64 (Int.tdiv im 4))).bind fun p => code_word.f k ([(⟨0, 5, d % 4294967296⟩ : S64), (⟨p.1, p.2.1, p.2.2⟩ : S64)] : List S64) else
  if s = 10 then (bits_Pack.f k im 21).bind fun v => (bits_Field.f v.1 0 2).bind fun x => (bits_Field.f v.1 2 19).bind fun y => code_word.f k ([(⟨0, 5, d % 4294967296⟩ : S64), (⟨5, 19, (wrap64 y.1) % 4294967296⟩ : S64), (⟨29, 2, (wrap64 x.1) % 4294967296⟩ : S64)] : List S64) else
  if s = 11 then (code_packed.f k 0 26 (wrap64 (Int.tdiv im 4))).bind fun p => code_word.f k ([(⟨p.1, p.2.1, p.2.2⟩ : S64)] : List S64) else
  if s = 12 then (code_packed.f k 5 19 (wrap64 (Int.tdiv im 4))).bind fun p => code_word.f k ([(⟨0, 4, cn % 4294967296⟩ : S64), (⟨p.1, p.2.1, p.2.2⟩ : S64)] : List S64) else
  if s = 13 then code_word.f k ([(⟨5, 5, n % 4294967296⟩ : S64)] : List S64) else
  if s = 14 then code_word.f k ([(⟨5, 16, im % 4294967296⟩ : S64)] : List S64) else
  if s = 16 then code_word.f k ([(⟨0, 5, d % 4294967296⟩ : S64), (⟨5, 5, n % 4294967296⟩ : S64), (⟨12, 4, cn % 4294967296⟩ : S64), (⟨16, 5, m % 4294967296⟩ : S64)] : List S64) else
  some 0
def code_filled.f (k : Nat) (op d n m a im mk sh am cn : Int) : Option Int := (inst_Shape.f op).bind fun s => fillS k s d n m a im mk sh am cn
structure FlB (g b3 b4 b5 : Nat) (I : Array Value) (d n m : Int) (w0 w : World) : Prop where
  i : w.heap[g]? = some (.cells I 24)
  k3 : w.heap[b3]? = some (.cells (fC 0 5 d) 64)
  k4 : w.heap[b4]? = some (.cells (fC 5 5 n) 64)
  k5 : w.heap[b5]? = some (.cells (fC 16 5 m) 64)
  bel : Below w0.heap.size w0 w
theorem FlB.after {g b3 b4 b5 : Nat} {I : Array Value} {d n m : Int} {w0 w w1 : World} (h : FlB g b3 b4 b5 I d n m w0 w) (hb : Below w.heap.size w w1) : FlB g b3 b4 b5 I d n m w0 w1 :=
  ⟨blk_below h.i hb, blk_below h.k3 hb, blk_below h.k4 hb, blk_below h.k5 hb, h.bel.trans (hb.mono h.bel.size)⟩
theorem shape_17 {op s : Int} (h : inst_Shape.f op = some s) : s = 0 ∨ s = 1 ∨ s = 2 ∨ s = 3 ∨ s = 4 ∨ s = 5 ∨ s = 6 ∨ s = 7 ∨ s = 8 ∨ s = 9 ∨ s = 10 ∨ s = 11 ∨ s = 12 ∨ s = 13 ∨ s = 14 ∨ s = 15 ∨ s = 16 := by
  unfold inst_Shape.f at h
  have h := Option.some.inj h
  split at h
  · rename_i hr
    have t : ∀ i, i < 40 → (let s := shapesL.getD i 0; s = 0 ∨ s = 1 ∨ s = 2 ∨ s = 3 ∨ s = 4 ∨ s = 5 ∨ s = 6 ∨ s = 7 ∨ s = 8 ∨ s = 9 ∨ s = 10 ∨ s = 11 ∨ s = 12 ∨ s = 13 ∨ s = 14 ∨ s = 15 ∨ s = 16) := by decide
    have := t op.toNat (by omega)
    rw [h] at this
    exact this
  · exact Or.inl h.symm
set_option maxHeartbeats 40000000 in
set_option maxRecDepth 100000 in
theorem code_filled.calls (k : Nat) (op d n m a im mk sh am cn r : Int) (w : World) (h : code_filled.f k op d n m a im mk sh am cn = some r) (HT : Aside0 (Tabs w)) :
    Calls Tryd.prog 22 #[.agg #[.int .i64 op, .int .i64 d, .int .i64 n, .int .i64 m, .int .i64 a, .int .i64 im, .int .u64 mk, .int .i64 sh, .int .i64 am, .int .i64 cn]] w fun e w' => e = .returned (.int .u32 r) ∧ Below w.heap.size w w' := by
  obtain ⟨s, hs, h⟩ := Option.bind_eq_some_iff.mp h
  have HF0 := Aside0.mk h
  clear h
  have HS := Aside0.mk hs
  have W0 := Aside0.mk (below_alloc (Below.refl w.heap.size w) (.cells #[.int .i64 op, .int .i64 d, .int .i64 n, .int .i64 m, .int .i64 a, .int .i64 im, .int .u64 mk, .int .i64 sh, .int .i64 am, .int .i64 cn] 24))
  have K0 := Aside0.mk (blk_new w (.cells #[.int .i64 op, .int .i64 d, .int .i64 n, .int .i64 m, .int .i64 a, .int .i64 im, .int .u64 mk, .int .i64 sh, .int .i64 am, .int .i64 cn] 24))
  have hz := Tryd.zeroValue64
  go_enter Tryd.func22, Tryd.ntmps22
  go_wp2_with (fail)
  go_name_world W1 hW1
  rw [hW1] at W0 K0
  clear hW1
  have HG : Aside0 (w.heap.size < W1.heap.size) := ⟨blk_lt K0.out⟩
  refine wp_region_inv (by kernel_rfl) (by kernel_rfl) (flI w.heap.size d n m) ?_ ?_ ?_
  · refine ⟨rfl, rfl, fun _ _ => rfl, pw_below_drewN (Below.refl _ _) 1, nofun, nofun, nofun, nofun, nofun, nofun, nofun, nofun, nofun, nofun, nofun, nofun, 0, 0, 0, nofun, nofun, nofun, nofun, nofun, nofun⟩
  · intro f a' w' i o hI ho hf hd
    have e1 : a'.tmps.getD 1 undef = .pointer (some ⟨w.heap.size, 0, none⟩) := by exact (flI_oth hI 1 (by decide)).trans rfl
    have KW := Aside0.mk (((flI_below hI).block w.heap.size HG.out).trans K0.out)
    rcases i with _ | _ | _ | _ | _ | _ | _ | _ | _ | _ | _ | _ | _ | _ | _ | i
    all_goals simp only [List.getElem?_toArray, List.getElem?_cons_zero, List.getElem?_cons_succ, List.getElem?_nil, Nat.zero_add, reduceCtorEq] at ho
    all_goals obtain rfl := Option.some.inj ho
    all_goals clear ho
    all_goals refine wpOp_at rfl rfl ?_
    all_goals simp [Region.binds] at hd
    all_goals have HI := Aside0.mk hI
    · -- 0
      clear hI
      go_simp
      exact flI_0 HI.out (Nat.le_of_ble_eq_true rfl)
    · -- 1
      have e2 := hI.2.2.2.2.2.2.2.1 hd
      clear hI
      have q := (blk_cell KW.out 1).trans rfl
      go_simp
      exact flI_1 HI.out (Nat.le_of_ble_eq_true rfl)
    · -- 2
      have e2 := hI.2.2.2.2.2.2.2.2.1 hd
      clear hI
      go_simp
      refine (code_field.calls _ _ _ _ _ _ _ rfl).mono ?_
      rintro e V ⟨rfl, hb⟩
      exact flI_2 HI.out (Nat.le_of_ble_eq_true rfl) hb
    · -- 3
      clear hI
      go_simp
      exact flI_3 HI.out (Nat.le_of_ble_eq_true rfl)
    · -- 4
      have e2 := hI.2.2.2.2.2.2.2.2.2.2.1 hd
      clear hI
      have q := (blk_cell KW.out 2).trans rfl
      go_simp
      exact flI_4 HI.out (Nat.le_of_ble_eq_true rfl)
    · -- 5
      have e2 := hI.2.2.2.2.2.2.2.2.2.2.2.1 hd.1
      clear hI
      go_simp
      refine (code_field.calls _ _ _ _ _ _ _ rfl).mono ?_
      rintro e V ⟨rfl, hb⟩
      exact flI_5 HI.out (Nat.le_of_ble_eq_true rfl) hb
    · -- 6
      clear hI
      go_simp
      exact flI_6 HI.out (Nat.le_of_ble_eq_true rfl)
    · -- 7
      have e2 := hI.2.2.2.2.2.2.2.2.2.2.2.2.2.1 hd
      clear hI
      have q := (blk_cell KW.out 3).trans rfl
      go_simp
      exact flI_7 HI.out (Nat.le_of_ble_eq_true rfl)
    · -- 8
      have e2 := hI.2.2.2.2.2.2.2.2.2.2.2.2.2.2.1 hd.1
      clear hI
      go_simp
      refine (code_field.calls _ _ _ _ _ _ _ rfl).mono ?_
      rintro e V ⟨rfl, hb⟩
      exact flI_8 HI.out (Nat.le_of_ble_eq_true rfl) hb
    · -- 9
      clear hI
      go_simp
      exact flI_9 HI.out (Nat.le_of_ble_eq_true rfl) hf
    · -- 10
      clear hI
      go_simp
      exact flI_10 HI.out (Nat.le_of_ble_eq_true rfl) hf
    · -- 11
      clear hI
      go_simp
      exact flI_11 HI.out (Nat.le_of_ble_eq_true rfl) hf
    · -- 12
      obtain ⟨hsz, hdf, hoth, hbl, i12, i13, i14, h0, h1, h2, h3, h4, h5, h6, h7, h8, b3, b4, b5, h9, h10, h11, x34, x35, x45⟩ := hI
      have t_ := (h9 hd.1).1
      have t2_ := h2 hd.2.1
      have HB := Aside0.mk (h9 hd.1).2.2
      have HD := Aside0.mk hd.1
      have HTT := Aside0.mk t_
      clear h0 h1 h2 h3 h4 h5 h6 h7 h8 h9 h10 h11 x34 x35 x45 i12 i13 i14 hd hsz hdf hoth hbl
      have c0 := (blk_cell HB.out 0).trans (show _ = some ((if f 12 = true then fC 0 5 d else zC).getD 0 undef) by cases f 12 <;> rfl)
      have c1 := (blk_cell HB.out 1).trans (show _ = some ((if f 12 = true then fC 0 5 d else zC).getD 1 undef) by cases f 12 <;> rfl)
      have c2 := (blk_cell HB.out 2).trans (show _ = some ((if f 12 = true then fC 0 5 d else zC).getD 2 undef) by cases f 12 <;> rfl)
      have z0 := blk_frozen HB.out 0
      have z1 := blk_frozen HB.out 1
      have z2 := blk_frozen HB.out 2
      go_simp
      exact flI_12 HI.out (Nat.le_of_ble_eq_true rfl) HD.out HTT.out
    · -- 13
      obtain ⟨hsz, hdf, hoth, hbl, i12, i13, i14, h0, h1, h2, h3, h4, h5, h6, h7, h8, b3, b4, b5, h9, h10, h11, x34, x35, x45⟩ := hI
      have t_ := (h10 hd.1).1
      have t2_ := h5 hd.2.1
      have HB := Aside0.mk (h10 hd.1).2.2
      have HD := Aside0.mk hd.1
      have HTT := Aside0.mk t_
      clear h0 h1 h2 h3 h4 h5 h6 h7 h8 h9 h10 h11 x34 x35 x45 i12 i13 i14 hd hsz hdf hoth hbl
      have c0 := (blk_cell HB.out 0).trans (show _ = some ((if f 13 = true then fC 5 5 n else zC).getD 0 undef) by cases f 13 <;> rfl)
      have c1 := (blk_cell HB.out 1).trans (show _ = some ((if f 13 = true then fC 5 5 n else zC).getD 1 undef) by cases f 13 <;> rfl)
      have c2 := (blk_cell HB.out 2).trans (show _ = some ((if f 13 = true then fC 5 5 n else zC).getD 2 undef) by cases f 13 <;> rfl)
      have z0 := blk_frozen HB.out 0
      have z1 := blk_frozen HB.out 1
      have z2 := blk_frozen HB.out 2
      go_simp
      exact flI_13 HI.out (Nat.le_of_ble_eq_true rfl) HD.out HTT.out
    · -- 14
      obtain ⟨hsz, hdf, hoth, hbl, i12, i13, i14, h0, h1, h2, h3, h4, h5, h6, h7, h8, b3, b4, b5, h9, h10, h11, x34, x35, x45⟩ := hI
      have t_ := (h11 hd.1).1
      have t2_ := h8 hd.2.1
      have HB := Aside0.mk (h11 hd.1).2.2
      have HD := Aside0.mk hd.1
      have HTT := Aside0.mk t_
      clear h0 h1 h2 h3 h4 h5 h6 h7 h8 h9 h10 h11 x34 x35 x45 i12 i13 i14 hd hsz hdf hoth hbl
      have c0 := (blk_cell HB.out 0).trans (show _ = some ((if f 14 = true then fC 16 5 m else zC).getD 0 undef) by cases f 14 <;> rfl)
      have c1 := (blk_cell HB.out 1).trans (show _ = some ((if f 14 = true then fC 16 5 m else zC).getD 1 undef) by cases f 14 <;> rfl)
      have c2 := (blk_cell HB.out 2).trans (show _ = some ((if f 14 = true then fC 16 5 m else zC).getD 2 undef) by cases f 14 <;> rfl)
      have z0 := blk_frozen HB.out 0
      have z1 := blk_frozen HB.out 1
      have z2 := blk_frozen HB.out 2
      go_simp
      exact flI_14 HI.out (Nat.le_of_ble_eq_true rfl) HD.out HTT.out
  · intro f a' w' hI hf
    obtain ⟨b3, b4, b5, e3, e4, e5, k3, k4, k5, hb, ea⟩ := flI_done hI hf
    clear hI hf
    simp only [List.foldl_cons, List.foldl_nil, e3, e4, e5] at ea
    generalize a'.tmps.getD 16 undef = y0 at ea
    generalize a'.tmps.getD 17 undef = y1 at ea
    generalize a'.tmps.getD 18 undef = y2 at ea
    generalize a'.tmps.getD 19 undef = y3 at ea
    generalize a'.tmps.getD 20 undef = y4 at ea
    generalize a'.tmps.getD 21 undef = y5 at ea
    generalize a'.tmps.getD 22 undef = y6 at ea
    generalize a'.tmps.getD 23 undef = y7 at ea
    generalize a'.tmps.getD 24 undef = y8 at ea
    clear e3 e4 e5
    simp only [Act.put, List.setIfInBounds_toArray, List.set_cons_zero, List.set_cons_succ] at ea
    subst ea
    have HK := Aside0.mk (hb.block w.heap.size HG.out |>.trans K0.out)
    have HTW := tabs_of (tabs_of HT W0.out) hb
    have WB := Aside0.mk (W0.out.trans (hb.mono W0.out.size))
    have K3 := Aside0.mk k3
    have K4 := Aside0.mk k4
    have K5 := Aside0.mk k5
    clear k3 k4 k5 hb
    have HB : Aside0 (FlB w.heap.size b3 b4 b5 #[.int .i64 op, .int .i64 d, .int .i64 n, .int .i64 m, .int .i64 a, .int .i64 im, .int .u64 mk, .int .i64 sh, .int .i64 am, .int .i64 cn] d n m w _) := ⟨⟨HK.out, K3.out, K4.out, K5.out, WB.out⟩⟩
    clear HK K3 K4 K5 WB W0 K0 HG hz
    have q0 := (blk_cell HB.out.i 0).trans rfl
    go_wp2_with (fail)
    clear q0
    refine (inst_Shape.calls op s _ HS.out HTW).mono ?_
    rintro e V ⟨rfl, ⟨⟨n1, rfl⟩⟩⟩
    replace HB := Aside0.mk (HB.out.after (pw_below_drewN (Below.refl _ _) n1))
    clear HTW HT
    rcases shape_17 HS.out with rfl | rfl | rfl | rfl | rfl | rfl | rfl | rfl | rfl | rfl | rfl | rfl | rfl | rfl | rfl | rfl | rfl
    · -- shape 0
      obtain rfl : r = 0 := (Option.some.inj HF0.out).symm
      go_wp2
      go_ret
      exact ⟨rfl, HB.out.bel⟩
    · -- shape 1
      have HF : Aside0 (code_word.f k ([(⟨0, 5, d % 4294967296⟩ : S64), (⟨5, 16, im % 4294967296⟩ : S64), (⟨21, 2, (wrap64 (Int.tdiv am 16)) % 4294967296⟩ : S64)] : List S64) = some r) := ⟨HF0.out⟩
      clear HF0
      go_wp2
      refine start_ (n := 11) (S := FlB w.heap.size b3 b4 b5 #[.int .i64 op, .int .i64 d, .int .i64 n, .int .i64 m, .int .i64 a, .int .i64 im, .int .u64 mk, .int .i64 sh, .int .i64 am, .int .i64 cn] d n m w) (ds := []) #[false, false, false, false, false, false, false, false, false, false, false] (by kernel_rfl) rfl rfl (HB.out.after (below_drew1 (Below.refl _ _))) (fun hHeld => ?_)
      refine pure_ (i := 1) (N := some 31) (v := ?_) (a' := ?_) #[false, true, false, false, false, false, false, false, false, false, false] rfl rfl (by kernel_rfl) (fun _ _ _ h => h) (Or.inl ⟨by rfl, ?_⟩) ?_ ?_
      rotate_left
      · intro w'
        go_simp
        with_reducible rfl
      rotate_left
      · simp only [Act.put, List.setIfInBounds_toArray, List.set_cons_zero, List.set_cons_succ, i64_w, i32_w]
        rfl
      refine pure_ (i := 4) (N := some 34) (v := ?_) (a' := ?_) #[false, true, false, false, true, false, false, false, false, false, false] rfl rfl (by kernel_rfl) (fun _ _ _ h => h) (Or.inl ⟨by rfl, ?_⟩) ?_ ?_
      rotate_left
      · intro w'
        go_simp
        with_reducible rfl
      rotate_left
      · simp only [Act.put, List.setIfInBounds_toArray, List.set_cons_zero, List.set_cons_succ, i64_w, i32_w]
        rfl
      refine take_ (i := 0) (N := some 30) (v := ?_) (a' := ?_) #[true, true, false, false, true, false, false, false, false, false, false] rfl rfl (by kernel_rfl) (fun _ _ _ h => h) (Or.inl ⟨by rfl, ?_⟩) hHeld ?_ ?_
      rotate_left
      · intro w' s
        have q0 := (blk_cell s.k3 0).trans rfl
        have q1 := (blk_cell s.k3 1).trans rfl
        have q2 := (blk_cell s.k3 2).trans rfl
        go_simp
        with_reducible rfl
      rotate_left
      · simp only [Act.put, List.setIfInBounds_toArray, List.set_cons_zero, List.set_cons_succ, i64_w, i32_w]
        rfl
      refine take_ (i := 2) (N := some 32) (v := ?_) (a' := ?_) #[true, true, true, false, true, false, false, false, false, false, false] rfl rfl (by kernel_rfl) (fun _ _ _ h => h) (Or.inl ⟨by rfl, ?_⟩) hHeld ?_ ?_
      rotate_left
      · intro w' s
        have q0 := (blk_cell s.i 5).trans rfl
        go_simp
        with_reducible rfl
      rotate_left
      · simp only [Act.put, List.setIfInBounds_toArray, List.set_cons_zero, List.set_cons_succ, i64_w, i32_w]
        rfl
      refine take_ (i := 5) (N := some 35) (v := ?_) (a' := ?_) #[true, true, true, false, true, true, false, false, false, false, false] rfl rfl (by kernel_rfl) (fun _ _ _ h => h) (Or.inl ⟨by rfl, ?_⟩) hHeld ?_ ?_
      rotate_left
      · intro w' s
        have q0 := (blk_cell s.i 8).trans rfl
        go_simp
        with_reducible rfl
      rotate_left
      · simp only [Act.put, List.setIfInBounds_toArray, List.set_cons_zero, List.set_cons_succ, i64_w, i32_w]
        rfl
      refine pure_ (i := 6) (N := some 36) (v := ?_) (a' := ?_) #[true, true, true, false, true, true, true, false, false, false, false] rfl rfl (by kernel_rfl) (fun _ _ _ h => h) (Or.inl ⟨by rfl, ?_⟩) ?_ ?_
      rotate_left
      · intro w'
        go_simp
        with_reducible rfl
      rotate_left
      · simp only [Act.put, List.setIfInBounds_toArray, List.set_cons_zero, List.set_cons_succ, i64_w, i32_w]
        rfl
      refine one_ (i := 3) (N := some 33) #[true, true, true, true, true, true, true, false, false, false, false] rfl rfl (by kernel_rfl) (by decide) (fun K hK => ?_)
      refine goes_ Tryd.func38 (by kernel_rfl) rfl #[.int .i64 5, .int .i64 16, .int .i64 (im)] (by rfl) rfl rfl (by simp only [List.map_toArray, List.map_cons, List.map_nil]; rfl) ?_
      with_reducible refine (code_field.calls _ _ _ _ _ _ _ rfl).mono ?_
      rintro e w1 ⟨rfl, hb⟩
      refine ⟨_, rfl, ?_⟩
      refine hK.out _ _ (hHeld.after hb) (fun hHeld => ?_)
      clear hK K hb
      refine norm_ (a' := ?_) ?_ ?_
      rotate_left
      · show Act.put _ (some 33) _ = _
        simp only [Act.put, List.setIfInBounds_toArray, List.set_cons_zero, List.set_cons_succ, i64_w, i32_w]
        rfl
      refine one_ (i := 7) (N := some 37) #[true, true, true, true, true, true, true, true, false, false, false] rfl rfl (by kernel_rfl) (by decide) (fun K hK => ?_)
      refine goes_ Tryd.func38 (by kernel_rfl) rfl #[.int .i64 21, .int .i64 2, .int .i64 (wrap64 (Int.tdiv am 16))] (by rfl) rfl rfl (by simp only [List.map_toArray, List.map_cons, List.map_nil]; rfl) ?_
      with_reducible refine (code_field.calls _ _ _ _ _ _ _ rfl).mono ?_
      rintro e w1 ⟨rfl, hb⟩
      refine ⟨_, rfl, ?_⟩
      refine hK.out _ _ (hHeld.after hb) (fun hHeld => ?_)
      clear hK K hb
      refine norm_ (a' := ?_) ?_ ?_
      rotate_left
      · show Act.put _ (some 37) _ = _
        simp only [Act.put, List.setIfInBounds_toArray, List.set_cons_zero, List.set_cons_succ, i64_w, i32_w]
        rfl
      refine one_ (i := 8) (N := some 38) #[true, true, true, true, true, true, true, true, true, false, false] rfl rfl (by kernel_rfl) (by decide) (fun K hK => ?_)
      refine Kd.R_lit_step k64 _ 64 ?hg (N := 38) ?hd (xs := ([(⟨0, 5, d % 4294967296⟩ : S64), (⟨5, 16, im % 4294967296⟩ : S64), (⟨21, 2, (wrap64 (Int.tdiv am 16)) % 4294967296⟩ : S64)] : List S64)) (inner := [.int .i64 0, .int .i64 5, .int .u32 (d % 4294967296), .int .i64 5, .int .i64 16, .int .u32 (im % 4294967296), .int .i64 21, .int .i64 2, .int .u32 ((wrap64 (Int.tdiv am 16)) % 4294967296)]) (ok := fun _ => True) (okp := fun _ => True) ?hr ?hp (fun _ hk => hk) trivial (Below.refl _ _) (Nat.le_refl _) (by simp) ?_; (case hd => rfl); (case hg => rfl); (case hr => first | (go_simp; done) | (go_simp; rfl)); (case hp => exact ((Reps.c3 (show Kd.M k64 _ _ _ (⟨0, 5, d % 4294967296⟩ : S64) [.int .i64 0, .int .i64 5, .int .u32 (d % 4294967296)] from (k64_mkM _ _ _ (⟨0, 5, d % 4294967296⟩ : S64))) (Reps.c3 (show Kd.M k64 _ _ _ (⟨5, 16, im % 4294967296⟩ : S64) [.int .i64 5, .int .i64 16, .int .u32 (im % 4294967296)] from (k64_mkM _ _ _ (⟨5, 16, im % 4294967296⟩ : S64))) (Reps.c3 (show Kd.M k64 _ _ _ (⟨21, 2, (wrap64 (Int.tdiv am 16)) % 4294967296⟩ : S64) [.int .i64 21, .int .i64 2, .int .u32 ((wrap64 (Int.tdiv am 16)) % 4294967296)] from (k64_mkM _ _ _ (⟨21, 2, (wrap64 (Int.tdiv am 16)) % 4294967296⟩ : S64))) (Reps.none _ _))))))
      intro v w1 ho hb hg_ hnew_
      clear hg_ hnew_
      have HO := Aside0.mk ho
      clear ho
      obtain ⟨Ao, co, eo⟩ := Kd.R_slice HO.out
      subst eo
      refine hK.out _ _ (hHeld.after hb) (fun hHeld => ?_)
      clear hK K hb
      refine norm_ (a' := ?_) ?_ ?_
      rotate_left
      · show Act.put _ (some 38) _ = _
        simp only [Act.put, List.setIfInBounds_toArray, List.set_cons_zero, List.set_cons_succ, i64_w, i32_w]
        rfl
      refine one_ (i := 9) (N := some 39) #[true, true, true, true, true, true, true, true, true, true, false] rfl rfl (by kernel_rfl) (by decide) (fun K hK => ?_)
      refine goes_ Tryd.func39 (by kernel_rfl) rfl #[.slice Ao (([(⟨0, 5, d % 4294967296⟩ : S64), (⟨5, 16, im % 4294967296⟩ : S64), (⟨21, 2, (wrap64 (Int.tdiv am 16)) % 4294967296⟩ : S64)] : List S64)).length co] (by rfl) rfl rfl (by simp only [List.map_toArray, List.map_cons, List.map_nil]; rfl) ?_
      with_reducible refine (code_word.calls k _ _ ([(⟨0, 5, d % 4294967296⟩ : S64), (⟨5, 16, im % 4294967296⟩ : S64), (⟨21, 2, (wrap64 (Int.tdiv am 16)) % 4294967296⟩ : S64)] : List S64) r _ (Kd.R_reads' HO.out).2.2 (Kd.R_reads' HO.out).2.1 HF.out).mono ?_
      rintro e w1 ⟨rfl, hb⟩
      refine ⟨_, rfl, ?_⟩
      refine hK.out _ _ (hHeld.after hb) (fun hHeld => ?_)
      clear hK K hb
      refine norm_ (a' := ?_) ?_ ?_
      rotate_left
      · show Act.put _ (some 39) _ = _
        simp only [Act.put, List.setIfInBounds_toArray, List.set_cons_zero, List.set_cons_succ, i64_w, i32_w]
        rfl
      refine pure_ (i := 10) (N := some 2) (v := ?_) (a' := ?_) #[true, true, true, true, true, true, true, true, true, true, true] rfl rfl (by kernel_rfl) (fun _ _ _ h => h) (Or.inl ⟨by rfl, ?_⟩) ?_ ?_
      rotate_left
      · intro w'
        go_simp
        with_reducible rfl
      rotate_left
      · simp only [Act.put, List.setIfInBounds_toArray, List.set_cons_zero, List.set_cons_succ, i64_w, i32_w]
        rfl
      refine done_ (by kernel_rfl) ?_
      go_wp2
      go_ret
      exact ⟨rfl, hHeld.bel⟩
    · -- shape 2
      have HF : Aside0 (code_word.f k ([(⟨0, 5, d % 4294967296⟩ : S64), (⟨5, 5, n % 4294967296⟩ : S64), (⟨10, 12, im % 4294967296⟩ : S64), (⟨22, 1, (wrap64 (Int.tdiv am 12)) % 4294967296⟩ : S64)] : List S64) = some r) := ⟨HF0.out⟩
      clear HF0
      go_wp2
      refine start_ (n := 12) (S := FlB w.heap.size b3 b4 b5 #[.int .i64 op, .int .i64 d, .int .i64 n, .int .i64 m, .int .i64 a, .int .i64 im, .int .u64 mk, .int .i64 sh, .int .i64 am, .int .i64 cn] d n m w) (ds := []) #[false, false, false, false, false, false, false, false, false, false, false, false] (by kernel_rfl) rfl rfl (HB.out.after (below_drew1 (Below.refl _ _))) (fun hHeld => ?_)
      refine pure_ (i := 2) (N := some 44) (v := ?_) (a' := ?_) #[false, false, true, false, false, false, false, false, false, false, false, false] rfl rfl (by kernel_rfl) (fun _ _ _ h => h) (Or.inl ⟨by rfl, ?_⟩) ?_ ?_
      rotate_left
      · intro w'
        go_simp
        with_reducible rfl
      rotate_left
      · simp only [Act.put, List.setIfInBounds_toArray, List.set_cons_zero, List.set_cons_succ, i64_w, i32_w]
        rfl
      refine pure_ (i := 5) (N := some 47) (v := ?_) (a' := ?_) #[false, false, true, false, false, true, false, false, false, false, false, false] rfl rfl (by kernel_rfl) (fun _ _ _ h => h) (Or.inl ⟨by rfl, ?_⟩) ?_ ?_
      rotate_left
      · intro w'
        go_simp
        with_reducible rfl
      rotate_left
      · simp only [Act.put, List.setIfInBounds_toArray, List.set_cons_zero, List.set_cons_succ, i64_w, i32_w]
        rfl
      refine take_ (i := 0) (N := some 42) (v := ?_) (a' := ?_) #[true, false, true, false, false, true, false, false, false, false, false, false] rfl rfl (by kernel_rfl) (fun _ _ _ h => h) (Or.inl ⟨by rfl, ?_⟩) hHeld ?_ ?_
      rotate_left
      · intro w' s
        have q0 := (blk_cell s.k3 0).trans rfl
        have q1 := (blk_cell s.k3 1).trans rfl
        have q2 := (blk_cell s.k3 2).trans rfl
        go_simp
        with_reducible rfl
      rotate_left
      · simp only [Act.put, List.setIfInBounds_toArray, List.set_cons_zero, List.set_cons_succ, i64_w, i32_w]
        rfl
      refine take_ (i := 1) (N := some 43) (v := ?_) (a' := ?_) #[true, true, true, false, false, true, false, false, false, false, false, false] rfl rfl (by kernel_rfl) (fun _ _ _ h => h) (Or.inl ⟨by rfl, ?_⟩) hHeld ?_ ?_
      rotate_left
      · intro w' s
        have q0 := (blk_cell s.k4 0).trans rfl
        have q1 := (blk_cell s.k4 1).trans rfl
        have q2 := (blk_cell s.k4 2).trans rfl
        go_simp
        with_reducible rfl
      rotate_left
      · simp only [Act.put, List.setIfInBounds_toArray, List.set_cons_zero, List.set_cons_succ, i64_w, i32_w]
        rfl
      refine take_ (i := 3) (N := some 45) (v := ?_) (a' := ?_) #[true, true, true, true, false, true, false, false, false, false, false, false] rfl rfl (by kernel_rfl) (fun _ _ _ h => h) (Or.inl ⟨by rfl, ?_⟩) hHeld ?_ ?_
      rotate_left
      · intro w' s
        have q0 := (blk_cell s.i 5).trans rfl
        go_simp
        with_reducible rfl
      rotate_left
      · simp only [Act.put, List.setIfInBounds_toArray, List.set_cons_zero, List.set_cons_succ, i64_w, i32_w]
        rfl
      refine take_ (i := 6) (N := some 48) (v := ?_) (a' := ?_) #[true, true, true, true, false, true, true, false, false, false, false, false] rfl rfl (by kernel_rfl) (fun _ _ _ h => h) (Or.inl ⟨by rfl, ?_⟩) hHeld ?_ ?_
      rotate_left
      · intro w' s
        have q0 := (blk_cell s.i 8).trans rfl
        go_simp
        with_reducible rfl
      rotate_left
      · simp only [Act.put, List.setIfInBounds_toArray, List.set_cons_zero, List.set_cons_succ, i64_w, i32_w]
        rfl
      refine pure_ (i := 7) (N := some 49) (v := ?_) (a' := ?_) #[true, true, true, true, false, true, true, true, false, false, false, false] rfl rfl (by kernel_rfl) (fun _ _ _ h => h) (Or.inl ⟨by rfl, ?_⟩) ?_ ?_
      rotate_left
      · intro w'
        go_simp
        with_reducible rfl
      rotate_left
      · simp only [Act.put, List.setIfInBounds_toArray, List.set_cons_zero, List.set_cons_succ, i64_w, i32_w]
        rfl
      refine one_ (i := 4) (N := some 46) #[true, true, true, true, true, true, true, true, false, false, false, false] rfl rfl (by kernel_rfl) (by decide) (fun K hK => ?_)
      refine goes_ Tryd.func38 (by kernel_rfl) rfl #[.int .i64 10, .int .i64 12, .int .i64 (im)] (by rfl) rfl rfl (by simp only [List.map_toArray, List.map_cons, List.map_nil]; rfl) ?_
      with_reducible refine (code_field.calls _ _ _ _ _ _ _ rfl).mono ?_
      rintro e w1 ⟨rfl, hb⟩
      refine ⟨_, rfl, ?_⟩
      refine hK.out _ _ (hHeld.after hb) (fun hHeld => ?_)
      clear hK K hb
      refine norm_ (a' := ?_) ?_ ?_
      rotate_left
      · show Act.put _ (some 46) _ = _
        simp only [Act.put, List.setIfInBounds_toArray, List.set_cons_zero, List.set_cons_succ, i64_w, i32_w]
        rfl
      refine one_ (i := 8) (N := some 50) #[true, true, true, true, true, true, true, true, true, false, false, false] rfl rfl (by kernel_rfl) (by decide) (fun K hK => ?_)
      refine goes_ Tryd.func38 (by kernel_rfl) rfl #[.int .i64 22, .int .i64 1, .int .i64 (wrap64 (Int.tdiv am 12))] (by rfl) rfl rfl (by simp only [List.map_toArray, List.map_cons, List.map_nil]; rfl) ?_
      with_reducible refine (code_field.calls _ _ _ _ _ _ _ rfl).mono ?_
      rintro e w1 ⟨rfl, hb⟩
      refine ⟨_, rfl, ?_⟩
      refine hK.out _ _ (hHeld.after hb) (fun hHeld => ?_)
      clear hK K hb
      refine norm_ (a' := ?_) ?_ ?_
      rotate_left
      · show Act.put _ (some 50) _ = _
        simp only [Act.put, List.setIfInBounds_toArray, List.set_cons_zero, List.set_cons_succ, i64_w, i32_w]
        rfl
      refine one_ (i := 9) (N := some 51) #[true, true, true, true, true, true, true, true, true, true, false, false] rfl rfl (by kernel_rfl) (by decide) (fun K hK => ?_)
      refine Kd.R_lit_step k64 _ 64 ?hg (N := 51) ?hd (xs := ([(⟨0, 5, d % 4294967296⟩ : S64), (⟨5, 5, n % 4294967296⟩ : S64), (⟨10, 12, im % 4294967296⟩ : S64), (⟨22, 1, (wrap64 (Int.tdiv am 12)) % 4294967296⟩ : S64)] : List S64)) (inner := [.int .i64 0, .int .i64 5, .int .u32 (d % 4294967296), .int .i64 5, .int .i64 5, .int .u32 (n % 4294967296), .int .i64 10, .int .i64 12, .int .u32 (im % 4294967296), .int .i64 22, .int .i64 1, .int .u32 ((wrap64 (Int.tdiv am 12)) % 4294967296)]) (ok := fun _ => True) (okp := fun _ => True) ?hr ?hp (fun _ hk => hk) trivial (Below.refl _ _) (Nat.le_refl _) (by simp) ?_; (case hd => rfl); (case hg => rfl); (case hr => first | (go_simp; done) | (go_simp; rfl)); (case hp => exact ((Reps.c3 (show Kd.M k64 _ _ _ (⟨0, 5, d % 4294967296⟩ : S64) [.int .i64 0, .int .i64 5, .int .u32 (d % 4294967296)] from (k64_mkM _ _ _ (⟨0, 5, d % 4294967296⟩ : S64))) (Reps.c3 (show Kd.M k64 _ _ _ (⟨5, 5, n % 4294967296⟩ : S64) [.int .i64 5, .int .i64 5, .int .u32 (n % 4294967296)] from (k64_mkM _ _ _ (⟨5, 5, n % 4294967296⟩ : S64))) (Reps.c3 (show Kd.M k64 _ _ _ (⟨10, 12, im % 4294967296⟩ : S64) [.int .i64 10, .int .i64 12, .int .u32 (im % 4294967296)] from (k64_mkM _ _ _ (⟨10, 12, im % 4294967296⟩ : S64))) (Reps.c3 (show Kd.M k64 _ _ _ (⟨22, 1, (wrap64 (Int.tdiv am 12)) % 4294967296⟩ : S64) [.int .i64 22, .int .i64 1, .int .u32 ((wrap64 (Int.tdiv am 12)) % 4294967296)] from (k64_mkM _ _ _ (⟨22, 1, (wrap64 (Int.tdiv am 12)) % 4294967296⟩ : S64))) (Reps.none _ _)))))))
      intro v w1 ho hb hg_ hnew_
      clear hg_ hnew_
      have HO := Aside0.mk ho
      clear ho
      obtain ⟨Ao, co, eo⟩ := Kd.R_slice HO.out
      subst eo
      refine hK.out _ _ (hHeld.after hb) (fun hHeld => ?_)
      clear hK K hb
      refine norm_ (a' := ?_) ?_ ?_
      rotate_left
      · show Act.put _ (some 51) _ = _
        simp only [Act.put, List.setIfInBounds_toArray, List.set_cons_zero, List.set_cons_succ, i64_w, i32_w]
        rfl
      refine one_ (i := 10) (N := some 52) #[true, true, true, true, true, true, true, true, true, true, true, false] rfl rfl (by kernel_rfl) (by decide) (fun K hK => ?_)
      refine goes_ Tryd.func39 (by kernel_rfl) rfl #[.slice Ao (([(⟨0, 5, d % 4294967296⟩ : S64), (⟨5, 5, n % 4294967296⟩ : S64), (⟨10, 12, im % 4294967296⟩ : S64), (⟨22, 1, (wrap64 (Int.tdiv am 12)) % 4294967296⟩ : S64)] : List S64)).length co] (by rfl) rfl rfl (by simp only [List.map_toArray, List.map_cons, List.map_nil]; rfl) ?_
      with_reducible refine (code_word.calls k _ _ ([(⟨0, 5, d % 4294967296⟩ : S64), (⟨5, 5, n % 4294967296⟩ : S64), (⟨10, 12, im % 4294967296⟩ : S64), (⟨22, 1, (wrap64 (Int.tdiv am 12)) % 4294967296⟩ : S64)] : List S64) r _ (Kd.R_reads' HO.out).2.2 (Kd.R_reads' HO.out).2.1 HF.out).mono ?_
      rintro e w1 ⟨rfl, hb⟩
      refine ⟨_, rfl, ?_⟩
      refine hK.out _ _ (hHeld.after hb) (fun hHeld => ?_)
      clear hK K hb
      refine norm_ (a' := ?_) ?_ ?_
      rotate_left
      · show Act.put _ (some 52) _ = _
        simp only [Act.put, List.setIfInBounds_toArray, List.set_cons_zero, List.set_cons_succ, i64_w, i32_w]
        rfl
      refine pure_ (i := 11) (N := some 2) (v := ?_) (a' := ?_) #[true, true, true, true, true, true, true, true, true, true, true, true] rfl rfl (by kernel_rfl) (fun _ _ _ h => h) (Or.inl ⟨by rfl, ?_⟩) ?_ ?_
      rotate_left
      · intro w'
        go_simp
        with_reducible rfl
      rotate_left
      · simp only [Act.put, List.setIfInBounds_toArray, List.set_cons_zero, List.set_cons_succ, i64_w, i32_w]
        rfl
      refine done_ (by kernel_rfl) ?_
      go_wp2
      go_ret
      exact ⟨rfl, hHeld.bel⟩
    · -- shape 3
      obtain ⟨⟨x0, x1, x2, x3⟩, hP, hF⟩ := Option.bind_eq_some_iff.mp HF0.out
      have HP := Aside0.mk hP
      have HF : Aside0 (code_word.f k ([(⟨0, 5, d % 4294967296⟩ : S64), (⟨5, 5, n % 4294967296⟩ : S64), (⟨10, 6, x2 % 4294967296⟩ : S64), (⟨16, 6, x1 % 4294967296⟩ : S64), (⟨22, 1, x0 % 4294967296⟩ : S64)] : List S64) = some r) := ⟨hF⟩
      clear hP hF HF0
      have q6 := (blk_cell HB.out.i 6).trans rfl
      go_wp2_with (fail)
      clear q6
      refine (mask_Encode.calls k mk x0 x1 x2 x3 _ HP.out).mono ?_
      rintro e w1 ⟨rfl, hb⟩
      replace HB := Aside0.mk (HB.out.after hb)
      clear hb
      go_wp2
      refine start_ (n := 11) (S := FlB w.heap.size b3 b4 b5 #[.int .i64 op, .int .i64 d, .int .i64 n, .int .i64 m, .int .i64 a, .int .i64 im, .int .u64 mk, .int .i64 sh, .int .i64 am, .int .i64 cn] d n m w) (ds := []) #[false, false, false, false, false, false, false, false, false, false, false] (by kernel_rfl) rfl rfl (HB.out.after (below_drew1 (Below.refl _ _))) (fun hHeld => ?_)
      refine pure_ (i := 2) (N := some 65) (v := ?_) (a' := ?_) #[false, false, true, false, false, false, false, false, false, false, false] rfl rfl (by kernel_rfl) (fun _ _ _ h => h) (Or.inl ⟨by rfl, ?_⟩) ?_ ?_
      rotate_left
      · intro w'
        go_simp
        with_reducible rfl
      rotate_left
      · simp only [Act.put, List.setIfInBounds_toArray, List.set_cons_zero, List.set_cons_succ, i64_w, i32_w]
        rfl
      refine pure_ (i := 4) (N := some 67) (v := ?_) (a' := ?_) #[false, false, true, false, true, false, false, false, false, false, false] rfl rfl (by kernel_rfl) (fun _ _ _ h => h) (Or.inl ⟨by rfl, ?_⟩) ?_ ?_
      rotate_left
      · intro w'
        go_simp
        with_reducible rfl
      rotate_left
      · simp only [Act.put, List.setIfInBounds_toArray, List.set_cons_zero, List.set_cons_succ, i64_w, i32_w]
        rfl
      refine pure_ (i := 6) (N := some 69) (v := ?_) (a' := ?_) #[false, false, true, false, true, false, true, false, false, false, false] rfl rfl (by kernel_rfl) (fun _ _ _ h => h) (Or.inl ⟨by rfl, ?_⟩) ?_ ?_
      rotate_left
      · intro w'
        go_simp
        with_reducible rfl
      rotate_left
      · simp only [Act.put, List.setIfInBounds_toArray, List.set_cons_zero, List.set_cons_succ, i64_w, i32_w]
        rfl
      refine take_ (i := 0) (N := some 63) (v := ?_) (a' := ?_) #[true, false, true, false, true, false, true, false, false, false, false] rfl rfl (by kernel_rfl) (fun _ _ _ h => h) (Or.inl ⟨by rfl, ?_⟩) hHeld ?_ ?_
      rotate_left
      · intro w' s
        have q0 := (blk_cell s.k3 0).trans rfl
        have q1 := (blk_cell s.k3 1).trans rfl
        have q2 := (blk_cell s.k3 2).trans rfl
        go_simp
        with_reducible rfl
      rotate_left
      · simp only [Act.put, List.setIfInBounds_toArray, List.set_cons_zero, List.set_cons_succ, i64_w, i32_w]
        rfl
      refine take_ (i := 1) (N := some 64) (v := ?_) (a' := ?_) #[true, true, true, false, true, false, true, false, false, false, false] rfl rfl (by kernel_rfl) (fun _ _ _ h => h) (Or.inl ⟨by rfl, ?_⟩) hHeld ?_ ?_
      rotate_left
      · intro w' s
        have q0 := (blk_cell s.k4 0).trans rfl
        have q1 := (blk_cell s.k4 1).trans rfl
        have q2 := (blk_cell s.k4 2).trans rfl
        go_simp
        with_reducible rfl
      rotate_left
      · simp only [Act.put, List.setIfInBounds_toArray, List.set_cons_zero, List.set_cons_succ, i64_w, i32_w]
        rfl
      refine one_ (i := 3) (N := some 66) #[true, true, true, true, true, false, true, false, false, false, false] rfl rfl (by kernel_rfl) (by decide) (fun K hK => ?_)
      refine goes_ Tryd.func38 (by kernel_rfl) rfl #[.int .i64 10, .int .i64 6, .int .i64 (x2)] (by rfl) rfl rfl (by simp only [List.map_toArray, List.map_cons, List.map_nil]; rfl) ?_
      with_reducible refine (code_field.calls _ _ _ _ _ _ _ rfl).mono ?_
      rintro e w1 ⟨rfl, hb⟩
      refine ⟨_, rfl, ?_⟩
      refine hK.out _ _ (hHeld.after hb) (fun hHeld => ?_)
      clear hK K hb
      refine norm_ (a' := ?_) ?_ ?_
      rotate_left
      · show Act.put _ (some 66) _ = _
        simp only [Act.put, List.setIfInBounds_toArray, List.set_cons_zero, List.set_cons_succ, i64_w, i32_w]
        rfl
      refine one_ (i := 5) (N := some 68) #[true, true, true, true, true, true, true, false, false, false, false] rfl rfl (by kernel_rfl) (by decide) (fun K hK => ?_)
      refine goes_ Tryd.func38 (by kernel_rfl) rfl #[.int .i64 16, .int .i64 6, .int .i64 (x1)] (by rfl) rfl rfl (by simp only [List.map_toArray, List.map_cons, List.map_nil]; rfl) ?_
      with_reducible refine (code_field.calls _ _ _ _ _ _ _ rfl).mono ?_
      rintro e w1 ⟨rfl, hb⟩
      refine ⟨_, rfl, ?_⟩
      refine hK.out _ _ (hHeld.after hb) (fun hHeld => ?_)
      clear hK K hb
      refine norm_ (a' := ?_) ?_ ?_
      rotate_left
      · show Act.put _ (some 68) _ = _
        simp only [Act.put, List.setIfInBounds_toArray, List.set_cons_zero, List.set_cons_succ, i64_w, i32_w]
        rfl
      refine one_ (i := 7) (N := some 70) #[true, true, true, true, true, true, true, true, false, false, false] rfl rfl (by kernel_rfl) (by decide) (fun K hK => ?_)
      refine goes_ Tryd.func38 (by kernel_rfl) rfl #[.int .i64 22, .int .i64 1, .int .i64 (x0)] (by rfl) rfl rfl (by simp only [List.map_toArray, List.map_cons, List.map_nil]; rfl) ?_
      with_reducible refine (code_field.calls _ _ _ _ _ _ _ rfl).mono ?_
      rintro e w1 ⟨rfl, hb⟩
      refine ⟨_, rfl, ?_⟩
      refine hK.out _ _ (hHeld.after hb) (fun hHeld => ?_)
      clear hK K hb
      refine norm_ (a' := ?_) ?_ ?_
      rotate_left
      · show Act.put _ (some 70) _ = _
        simp only [Act.put, List.setIfInBounds_toArray, List.set_cons_zero, List.set_cons_succ, i64_w, i32_w]
        rfl
      refine one_ (i := 8) (N := some 71) #[true, true, true, true, true, true, true, true, true, false, false] rfl rfl (by kernel_rfl) (by decide) (fun K hK => ?_)
      refine Kd.R_lit_step k64 _ 64 ?hg (N := 71) ?hd (xs := ([(⟨0, 5, d % 4294967296⟩ : S64), (⟨5, 5, n % 4294967296⟩ : S64), (⟨10, 6, x2 % 4294967296⟩ : S64), (⟨16, 6, x1 % 4294967296⟩ : S64), (⟨22, 1, x0 % 4294967296⟩ : S64)] : List S64)) (inner := [.int .i64 0, .int .i64 5, .int .u32 (d % 4294967296), .int .i64 5, .int .i64 5, .int .u32 (n % 4294967296), .int .i64 10, .int .i64 6, .int .u32 (x2 % 4294967296), .int .i64 16, .int .i64 6, .int .u32 (x1 % 4294967296), .int .i64 22, .int .i64 1, .int .u32 (x0 % 4294967296)]) (ok := fun _ => True) (okp := fun _ => True) ?hr ?hp (fun _ hk => hk) trivial (Below.refl _ _) (Nat.le_refl _) (by simp) ?_; (case hd => rfl); (case hg => rfl); (case hr => first | (go_simp; done) | (go_simp; rfl)); (case hp => exact ((Reps.c3 (show Kd.M k64 _ _ _ (⟨0, 5, d % 4294967296⟩ : S64) [.int .i64 0, .int .i64 5, .int .u32 (d % 4294967296)] from (k64_mkM _ _ _ (⟨0, 5, d % 4294967296⟩ : S64))) (Reps.c3 (show Kd.M k64 _ _ _ (⟨5, 5, n % 4294967296⟩ : S64) [.int .i64 5, .int .i64 5, .int .u32 (n % 4294967296)] from (k64_mkM _ _ _ (⟨5, 5, n % 4294967296⟩ : S64))) (Reps.c3 (show Kd.M k64 _ _ _ (⟨10, 6, x2 % 4294967296⟩ : S64) [.int .i64 10, .int .i64 6, .int .u32 (x2 % 4294967296)] from (k64_mkM _ _ _ (⟨10, 6, x2 % 4294967296⟩ : S64))) (Reps.c3 (show Kd.M k64 _ _ _ (⟨16, 6, x1 % 4294967296⟩ : S64) [.int .i64 16, .int .i64 6, .int .u32 (x1 % 4294967296)] from (k64_mkM _ _ _ (⟨16, 6, x1 % 4294967296⟩ : S64))) (Reps.c3 (show Kd.M k64 _ _ _ (⟨22, 1, x0 % 4294967296⟩ : S64) [.int .i64 22, .int .i64 1, .int .u32 (x0 % 4294967296)] from (k64_mkM _ _ _ (⟨22, 1, x0 % 4294967296⟩ : S64))) (Reps.none _ _))))))))
      intro v w1 ho hb hg_ hnew_
      clear hg_ hnew_
      have HO := Aside0.mk ho
      clear ho
      obtain ⟨Ao, co, eo⟩ := Kd.R_slice HO.out
      subst eo
      refine hK.out _ _ (hHeld.after hb) (fun hHeld => ?_)
      clear hK K hb
      refine norm_ (a' := ?_) ?_ ?_
      rotate_left
      · show Act.put _ (some 71) _ = _
        simp only [Act.put, List.setIfInBounds_toArray, List.set_cons_zero, List.set_cons_succ, i64_w, i32_w]
        rfl
      refine one_ (i := 9) (N := some 72) #[true, true, true, true, true, true, true, true, true, true, false] rfl rfl (by kernel_rfl) (by decide) (fun K hK => ?_)
      refine goes_ Tryd.func39 (by kernel_rfl) rfl #[.slice Ao (([(⟨0, 5, d % 4294967296⟩ : S64), (⟨5, 5, n % 4294967296⟩ : S64), (⟨10, 6, x2 % 4294967296⟩ : S64), (⟨16, 6, x1 % 4294967296⟩ : S64), (⟨22, 1, x0 % 4294967296⟩ : S64)] : List S64)).length co] (by rfl) rfl rfl (by simp only [List.map_toArray, List.map_cons, List.map_nil]; rfl) ?_
      with_reducible refine (code_word.calls k _ _ ([(⟨0, 5, d % 4294967296⟩ : S64), (⟨5, 5, n % 4294967296⟩ : S64), (⟨10, 6, x2 % 4294967296⟩ : S64), (⟨16, 6, x1 % 4294967296⟩ : S64), (⟨22, 1, x0 % 4294967296⟩ : S64)] : List S64) r _ (Kd.R_reads' HO.out).2.2 (Kd.R_reads' HO.out).2.1 HF.out).mono ?_
      rintro e w1 ⟨rfl, hb⟩
      refine ⟨_, rfl, ?_⟩
      refine hK.out _ _ (hHeld.after hb) (fun hHeld => ?_)
      clear hK K hb
      refine norm_ (a' := ?_) ?_ ?_
      rotate_left
      · show Act.put _ (some 72) _ = _
        simp only [Act.put, List.setIfInBounds_toArray, List.set_cons_zero, List.set_cons_succ, i64_w, i32_w]
        rfl
      refine pure_ (i := 10) (N := some 2) (v := ?_) (a' := ?_) #[true, true, true, true, true, true, true, true, true, true, true] rfl rfl (by kernel_rfl) (fun _ _ _ h => h) (Or.inl ⟨by rfl, ?_⟩) ?_ ?_
      rotate_left
      · intro w'
        go_simp
        with_reducible rfl
      rotate_left
      · simp only [Act.put, List.setIfInBounds_toArray, List.set_cons_zero, List.set_cons_succ, i64_w, i32_w]
        rfl
      refine done_ (by kernel_rfl) ?_
      go_wp2
      go_ret
      exact ⟨rfl, hHeld.bel⟩
    · -- shape 4
      have HF : Aside0 (code_word.f k ([(⟨0, 5, d % 4294967296⟩ : S64), (⟨5, 5, n % 4294967296⟩ : S64), (⟨10, 6, am % 4294967296⟩ : S64), (⟨16, 5, m % 4294967296⟩ : S64), (⟨22, 2, sh % 4294967296⟩ : S64)] : List S64) = some r) := ⟨HF0.out⟩
      clear HF0
      go_wp2
      refine start_ (n := 12) (S := FlB w.heap.size b3 b4 b5 #[.int .i64 op, .int .i64 d, .int .i64 n, .int .i64 m, .int .i64 a, .int .i64 im, .int .u64 mk, .int .i64 sh, .int .i64 am, .int .i64 cn] d n m w) (ds := []) #[false, false, false, false, false, false, false, false, false, false, false, false] (by kernel_rfl) rfl rfl (HB.out.after (below_drew1 (Below.refl _ _))) (fun hHeld => ?_)
      refine pure_ (i := 2) (N := some 78) (v := ?_) (a' := ?_) #[false, false, true, false, false, false, false, false, false, false, false, false] rfl rfl (by kernel_rfl) (fun _ _ _ h => h) (Or.inl ⟨by rfl, ?_⟩) ?_ ?_
      rotate_left
      · intro w'
        go_simp
        with_reducible rfl
      rotate_left
      · simp only [Act.put, List.setIfInBounds_toArray, List.set_cons_zero, List.set_cons_succ, i64_w, i32_w]
        rfl
      refine pure_ (i := 6) (N := some 82) (v := ?_) (a' := ?_) #[false, false, true, false, false, false, true, false, false, false, false, false] rfl rfl (by kernel_rfl) (fun _ _ _ h => h) (Or.inl ⟨by rfl, ?_⟩) ?_ ?_
      rotate_left
      · intro w'
        go_simp
        with_reducible rfl
      rotate_left
      · simp only [Act.put, List.setIfInBounds_toArray, List.set_cons_zero, List.set_cons_succ, i64_w, i32_w]
        rfl
      refine take_ (i := 0) (N := some 76) (v := ?_) (a' := ?_) #[true, false, true, false, false, false, true, false, false, false, false, false] rfl rfl (by kernel_rfl) (fun _ _ _ h => h) (Or.inl ⟨by rfl, ?_⟩) hHeld ?_ ?_
      rotate_left
      · intro w' s
        have q0 := (blk_cell s.k3 0).trans rfl
        have q1 := (blk_cell s.k3 1).trans rfl
        have q2 := (blk_cell s.k3 2).trans rfl
        go_simp
        with_reducible rfl
      rotate_left
      · simp only [Act.put, List.setIfInBounds_toArray, List.set_cons_zero, List.set_cons_succ, i64_w, i32_w]
        rfl
      refine take_ (i := 1) (N := some 77) (v := ?_) (a' := ?_) #[true, true, true, false, false, false, true, false, false, false, false, false] rfl rfl (by kernel_rfl) (fun _ _ _ h => h) (Or.inl ⟨by rfl, ?_⟩) hHeld ?_ ?_
      rotate_left
      · intro w' s
        have q0 := (blk_cell s.k4 0).trans rfl
        have q1 := (blk_cell s.k4 1).trans rfl
        have q2 := (blk_cell s.k4 2).trans rfl
        go_simp
        with_reducible rfl
      rotate_left
      · simp only [Act.put, List.setIfInBounds_toArray, List.set_cons_zero, List.set_cons_succ, i64_w, i32_w]
        rfl
      refine take_ (i := 3) (N := some 79) (v := ?_) (a' := ?_) #[true, true, true, true, false, false, true, false, false, false, false, false] rfl rfl (by kernel_rfl) (fun _ _ _ h => h) (Or.inl ⟨by rfl, ?_⟩) hHeld ?_ ?_
      rotate_left
      · intro w' s
        have q0 := (blk_cell s.i 8).trans rfl
        go_simp
        with_reducible rfl
      rotate_left
      · simp only [Act.put, List.setIfInBounds_toArray, List.set_cons_zero, List.set_cons_succ, i64_w, i32_w]
        rfl
      refine take_ (i := 5) (N := some 81) (v := ?_) (a' := ?_) #[true, true, true, true, false, true, true, false, false, false, false, false] rfl rfl (by kernel_rfl) (fun _ _ _ h => h) (Or.inl ⟨by rfl, ?_⟩) hHeld ?_ ?_
      rotate_left
      · intro w' s
        have q0 := (blk_cell s.k5 0).trans rfl
        have q1 := (blk_cell s.k5 1).trans rfl
        have q2 := (blk_cell s.k5 2).trans rfl
        go_simp
        with_reducible rfl
      rotate_left
      · simp only [Act.put, List.setIfInBounds_toArray, List.set_cons_zero, List.set_cons_succ, i64_w, i32_w]
        rfl
      refine take_ (i := 7) (N := some 83) (v := ?_) (a' := ?_) #[true, true, true, true, false, true, true, true, false, false, false, false] rfl rfl (by kernel_rfl) (fun _ _ _ h => h) (Or.inl ⟨by rfl, ?_⟩) hHeld ?_ ?_
      rotate_left
      · intro w' s
        have q0 := (blk_cell s.i 7).trans rfl
        go_simp
        with_reducible rfl
      rotate_left
      · simp only [Act.put, List.setIfInBounds_toArray, List.set_cons_zero, List.set_cons_succ, i64_w, i32_w]
        rfl
      refine one_ (i := 4) (N := some 80) #[true, true, true, true, true, true, true, true, false, false, false, false] rfl rfl (by kernel_rfl) (by decide) (fun K hK => ?_)
      refine goes_ Tryd.func38 (by kernel_rfl) rfl #[.int .i64 10, .int .i64 6, .int .i64 (am)] (by rfl) rfl rfl (by simp only [List.map_toArray, List.map_cons, List.map_nil]; rfl) ?_
      with_reducible refine (code_field.calls _ _ _ _ _ _ _ rfl).mono ?_
      rintro e w1 ⟨rfl, hb⟩
      refine ⟨_, rfl, ?_⟩
      refine hK.out _ _ (hHeld.after hb) (fun hHeld => ?_)
      clear hK K hb
      refine norm_ (a' := ?_) ?_ ?_
      rotate_left
      · show Act.put _ (some 80) _ = _
        simp only [Act.put, List.setIfInBounds_toArray, List.set_cons_zero, List.set_cons_succ, i64_w, i32_w]
        rfl
      refine one_ (i := 8) (N := some 84) #[true, true, true, true, true, true, true, true, true, false, false, false] rfl rfl (by kernel_rfl) (by decide) (fun K hK => ?_)
      refine goes_ Tryd.func38 (by kernel_rfl) rfl #[.int .i64 22, .int .i64 2, .int .i64 (sh)] (by rfl) rfl rfl (by simp only [List.map_toArray, List.map_cons, List.map_nil]; rfl) ?_
      with_reducible refine (code_field.calls _ _ _ _ _ _ _ rfl).mono ?_
      rintro e w1 ⟨rfl, hb⟩
      refine ⟨_, rfl, ?_⟩
      refine hK.out _ _ (hHeld.after hb) (fun hHeld => ?_)
      clear hK K hb
      refine norm_ (a' := ?_) ?_ ?_
      rotate_left
      · show Act.put _ (some 84) _ = _
        simp only [Act.put, List.setIfInBounds_toArray, List.set_cons_zero, List.set_cons_succ, i64_w, i32_w]
        rfl
      refine one_ (i := 9) (N := some 85) #[true, true, true, true, true, true, true, true, true, true, false, false] rfl rfl (by kernel_rfl) (by decide) (fun K hK => ?_)
      refine Kd.R_lit_step k64 _ 64 ?hg (N := 85) ?hd (xs := ([(⟨0, 5, d % 4294967296⟩ : S64), (⟨5, 5, n % 4294967296⟩ : S64), (⟨10, 6, am % 4294967296⟩ : S64), (⟨16, 5, m % 4294967296⟩ : S64), (⟨22, 2, sh % 4294967296⟩ : S64)] : List S64)) (inner := [.int .i64 0, .int .i64 5, .int .u32 (d % 4294967296), .int .i64 5, .int .i64 5, .int .u32 (n % 4294967296), .int .i64 10, .int .i64 6, .int .u32 (am % 4294967296), .int .i64 16, .int .i64 5, .int .u32 (m % 4294967296), .int .i64 22, .int .i64 2, .int .u32 (sh % 4294967296)]) (ok := fun _ => True) (okp := fun _ => True) ?hr ?hp (fun _ hk => hk) trivial (Below.refl _ _) (Nat.le_refl _) (by simp) ?_; (case hd => rfl); (case hg => rfl); (case hr => first | (go_simp; done) | (go_simp; rfl)); (case hp => exact ((Reps.c3 (show Kd.M k64 _ _ _ (⟨0, 5, d % 4294967296⟩ : S64) [.int .i64 0, .int .i64 5, .int .u32 (d % 4294967296)] from (k64_mkM _ _ _ (⟨0, 5, d % 4294967296⟩ : S64))) (Reps.c3 (show Kd.M k64 _ _ _ (⟨5, 5, n % 4294967296⟩ : S64) [.int .i64 5, .int .i64 5, .int .u32 (n % 4294967296)] from (k64_mkM _ _ _ (⟨5, 5, n % 4294967296⟩ : S64))) (Reps.c3 (show Kd.M k64 _ _ _ (⟨10, 6, am % 4294967296⟩ : S64) [.int .i64 10, .int .i64 6, .int .u32 (am % 4294967296)] from (k64_mkM _ _ _ (⟨10, 6, am % 4294967296⟩ : S64))) (Reps.c3 (show Kd.M k64 _ _ _ (⟨16, 5, m % 4294967296⟩ : S64) [.int .i64 16, .int .i64 5, .int .u32 (m % 4294967296)] from (k64_mkM _ _ _ (⟨16, 5, m % 4294967296⟩ : S64))) (Reps.c3 (show Kd.M k64 _ _ _ (⟨22, 2, sh % 4294967296⟩ : S64) [.int .i64 22, .int .i64 2, .int .u32 (sh % 4294967296)] from (k64_mkM _ _ _ (⟨22, 2, sh % 4294967296⟩ : S64))) (Reps.none _ _))))))))
      intro v w1 ho hb hg_ hnew_
      clear hg_ hnew_
      have HO := Aside0.mk ho
      clear ho
      obtain ⟨Ao, co, eo⟩ := Kd.R_slice HO.out
      subst eo
      refine hK.out _ _ (hHeld.after hb) (fun hHeld => ?_)
      clear hK K hb
      refine norm_ (a' := ?_) ?_ ?_
      rotate_left
      · show Act.put _ (some 85) _ = _
        simp only [Act.put, List.setIfInBounds_toArray, List.set_cons_zero, List.set_cons_succ, i64_w, i32_w]
        rfl
      refine one_ (i := 10) (N := some 86) #[true, true, true, true, true, true, true, true, true, true, true, false] rfl rfl (by kernel_rfl) (by decide) (fun K hK => ?_)
      refine goes_ Tryd.func39 (by kernel_rfl) rfl #[.slice Ao (([(⟨0, 5, d % 4294967296⟩ : S64), (⟨5, 5, n % 4294967296⟩ : S64), (⟨10, 6, am % 4294967296⟩ : S64), (⟨16, 5, m % 4294967296⟩ : S64), (⟨22, 2, sh % 4294967296⟩ : S64)] : List S64)).length co] (by rfl) rfl rfl (by simp only [List.map_toArray, List.map_cons, List.map_nil]; rfl) ?_
      with_reducible refine (code_word.calls k _ _ ([(⟨0, 5, d % 4294967296⟩ : S64), (⟨5, 5, n % 4294967296⟩ : S64), (⟨10, 6, am % 4294967296⟩ : S64), (⟨16, 5, m % 4294967296⟩ : S64), (⟨22, 2, sh % 4294967296⟩ : S64)] : List S64) r _ (Kd.R_reads' HO.out).2.2 (Kd.R_reads' HO.out).2.1 HF.out).mono ?_
      rintro e w1 ⟨rfl, hb⟩
      refine ⟨_, rfl, ?_⟩
      refine hK.out _ _ (hHeld.after hb) (fun hHeld => ?_)
      clear hK K hb
      refine norm_ (a' := ?_) ?_ ?_
      rotate_left
      · show Act.put _ (some 86) _ = _
        simp only [Act.put, List.setIfInBounds_toArray, List.set_cons_zero, List.set_cons_succ, i64_w, i32_w]
        rfl
      refine pure_ (i := 11) (N := some 2) (v := ?_) (a' := ?_) #[true, true, true, true, true, true, true, true, true, true, true, true] rfl rfl (by kernel_rfl) (fun _ _ _ h => h) (Or.inl ⟨by rfl, ?_⟩) ?_ ?_
      rotate_left
      · intro w'
        go_simp
        with_reducible rfl
      rotate_left
      · simp only [Act.put, List.setIfInBounds_toArray, List.set_cons_zero, List.set_cons_succ, i64_w, i32_w]
        rfl
      refine done_ (by kernel_rfl) ?_
      go_wp2
      go_ret
      exact ⟨rfl, hHeld.bel⟩
    · -- shape 5
      have HF : Aside0 (code_word.f k ([(⟨0, 5, d % 4294967296⟩ : S64), (⟨5, 5, n % 4294967296⟩ : S64), (⟨10, 6, am % 4294967296⟩ : S64), (⟨16, 5, m % 4294967296⟩ : S64), (⟨22, 2, sh % 4294967296⟩ : S64)] : List S64) = some r) := ⟨HF0.out⟩
      clear HF0
      go_wp2
      refine start_ (n := 12) (S := FlB w.heap.size b3 b4 b5 #[.int .i64 op, .int .i64 d, .int .i64 n, .int .i64 m, .int .i64 a, .int .i64 im, .int .u64 mk, .int .i64 sh, .int .i64 am, .int .i64 cn] d n m w) (ds := []) #[false, false, false, false, false, false, false, false, false, false, false, false] (by kernel_rfl) rfl rfl (HB.out.after (below_drew1 (Below.refl _ _))) (fun hHeld => ?_)
      refine pure_ (i := 2) (N := some 78) (v := ?_) (a' := ?_) #[false, false, true, false, false, false, false, false, false, false, false, false] rfl rfl (by kernel_rfl) (fun _ _ _ h => h) (Or.inl ⟨by rfl, ?_⟩) ?_ ?_
      rotate_left
      · intro w'
        go_simp
        with_reducible rfl
      rotate_left
      · simp only [Act.put, List.setIfInBounds_toArray, List.set_cons_zero, List.set_cons_succ, i64_w, i32_w]
        rfl
      refine pure_ (i := 6) (N := some 82) (v := ?_) (a' := ?_) #[false, false, true, false, false, false, true, false, false, false, false, false] rfl rfl (by kernel_rfl) (fun _ _ _ h => h) (Or.inl ⟨by rfl, ?_⟩) ?_ ?_
      rotate_left
      · intro w'
        go_simp
        with_reducible rfl
      rotate_left
      · simp only [Act.put, List.setIfInBounds_toArray, List.set_cons_zero, List.set_cons_succ, i64_w, i32_w]
        rfl
      refine take_ (i := 0) (N := some 76) (v := ?_) (a' := ?_) #[true, false, true, false, false, false, true, false, false, false, false, false] rfl rfl (by kernel_rfl) (fun _ _ _ h => h) (Or.inl ⟨by rfl, ?_⟩) hHeld ?_ ?_
      rotate_left
      · intro w' s
        have q0 := (blk_cell s.k3 0).trans rfl
        have q1 := (blk_cell s.k3 1).trans rfl
        have q2 := (blk_cell s.k3 2).trans rfl
        go_simp
        with_reducible rfl
      rotate_left
      · simp only [Act.put, List.setIfInBounds_toArray, List.set_cons_zero, List.set_cons_succ, i64_w, i32_w]
        rfl
      refine take_ (i := 1) (N := some 77) (v := ?_) (a' := ?_) #[true, true, true, false, false, false, true, false, false, false, false, false] rfl rfl (by kernel_rfl) (fun _ _ _ h => h) (Or.inl ⟨by rfl, ?_⟩) hHeld ?_ ?_
      rotate_left
      · intro w' s
        have q0 := (blk_cell s.k4 0).trans rfl
        have q1 := (blk_cell s.k4 1).trans rfl
        have q2 := (blk_cell s.k4 2).trans rfl
        go_simp
        with_reducible rfl
      rotate_left
      · simp only [Act.put, List.setIfInBounds_toArray, List.set_cons_zero, List.set_cons_succ, i64_w, i32_w]
        rfl
      refine take_ (i := 3) (N := some 79) (v := ?_) (a' := ?_) #[true, true, true, true, false, false, true, false, false, false, false, false] rfl rfl (by kernel_rfl) (fun _ _ _ h => h) (Or.inl ⟨by rfl, ?_⟩) hHeld ?_ ?_
      rotate_left
      · intro w' s
        have q0 := (blk_cell s.i 8).trans rfl
        go_simp
        with_reducible rfl
      rotate_left
      · simp only [Act.put, List.setIfInBounds_toArray, List.set_cons_zero, List.set_cons_succ, i64_w, i32_w]
        rfl
      refine take_ (i := 5) (N := some 81) (v := ?_) (a' := ?_) #[true, true, true, true, false, true, true, false, false, false, false, false] rfl rfl (by kernel_rfl) (fun _ _ _ h => h) (Or.inl ⟨by rfl, ?_⟩) hHeld ?_ ?_
      rotate_left
      · intro w' s
        have q0 := (blk_cell s.k5 0).trans rfl
        have q1 := (blk_cell s.k5 1).trans rfl
        have q2 := (blk_cell s.k5 2).trans rfl
        go_simp
        with_reducible rfl
      rotate_left
      · simp only [Act.put, List.setIfInBounds_toArray, List.set_cons_zero, List.set_cons_succ, i64_w, i32_w]
        rfl
      refine take_ (i := 7) (N := some 83) (v := ?_) (a' := ?_) #[true, true, true, true, false, true, true, true, false, false, false, false] rfl rfl (by kernel_rfl) (fun _ _ _ h => h) (Or.inl ⟨by rfl, ?_⟩) hHeld ?_ ?_
      rotate_left
      · intro w' s
        have q0 := (blk_cell s.i 7).trans rfl
        go_simp
        with_reducible rfl
      rotate_left
      · simp only [Act.put, List.setIfInBounds_toArray, List.set_cons_zero, List.set_cons_succ, i64_w, i32_w]
        rfl
      refine one_ (i := 4) (N := some 80) #[true, true, true, true, true, true, true, true, false, false, false, false] rfl rfl (by kernel_rfl) (by decide) (fun K hK => ?_)
      refine goes_ Tryd.func38 (by kernel_rfl) rfl #[.int .i64 10, .int .i64 6, .int .i64 (am)] (by rfl) rfl rfl (by simp only [List.map_toArray, List.map_cons, List.map_nil]; rfl) ?_
      with_reducible refine (code_field.calls _ _ _ _ _ _ _ rfl).mono ?_
      rintro e w1 ⟨rfl, hb⟩
      refine ⟨_, rfl, ?_⟩
      refine hK.out _ _ (hHeld.after hb) (fun hHeld => ?_)
      clear hK K hb
      refine norm_ (a' := ?_) ?_ ?_
      rotate_left
      · show Act.put _ (some 80) _ = _
        simp only [Act.put, List.setIfInBounds_toArray, List.set_cons_zero, List.set_cons_succ, i64_w, i32_w]
        rfl
      refine one_ (i := 8) (N := some 84) #[true, true, true, true, true, true, true, true, true, false, false, false] rfl rfl (by kernel_rfl) (by decide) (fun K hK => ?_)
      refine goes_ Tryd.func38 (by kernel_rfl) rfl #[.int .i64 22, .int .i64 2, .int .i64 (sh)] (by rfl) rfl rfl (by simp only [List.map_toArray, List.map_cons, List.map_nil]; rfl) ?_
      with_reducible refine (code_field.calls _ _ _ _ _ _ _ rfl).mono ?_
      rintro e w1 ⟨rfl, hb⟩
      refine ⟨_, rfl, ?_⟩
      refine hK.out _ _ (hHeld.after hb) (fun hHeld => ?_)
      clear hK K hb
      refine norm_ (a' := ?_) ?_ ?_
      rotate_left
      · show Act.put _ (some 84) _ = _
        simp only [Act.put, List.setIfInBounds_toArray, List.set_cons_zero, List.set_cons_succ, i64_w, i32_w]
        rfl
      refine one_ (i := 9) (N := some 85) #[true, true, true, true, true, true, true, true, true, true, false, false] rfl rfl (by kernel_rfl) (by decide) (fun K hK => ?_)
      refine Kd.R_lit_step k64 _ 64 ?hg (N := 85) ?hd (xs := ([(⟨0, 5, d % 4294967296⟩ : S64), (⟨5, 5, n % 4294967296⟩ : S64), (⟨10, 6, am % 4294967296⟩ : S64), (⟨16, 5, m % 4294967296⟩ : S64), (⟨22, 2, sh % 4294967296⟩ : S64)] : List S64)) (inner := [.int .i64 0, .int .i64 5, .int .u32 (d % 4294967296), .int .i64 5, .int .i64 5, .int .u32 (n % 4294967296), .int .i64 10, .int .i64 6, .int .u32 (am % 4294967296), .int .i64 16, .int .i64 5, .int .u32 (m % 4294967296), .int .i64 22, .int .i64 2, .int .u32 (sh % 4294967296)]) (ok := fun _ => True) (okp := fun _ => True) ?hr ?hp (fun _ hk => hk) trivial (Below.refl _ _) (Nat.le_refl _) (by simp) ?_; (case hd => rfl); (case hg => rfl); (case hr => first | (go_simp; done) | (go_simp; rfl)); (case hp => exact ((Reps.c3 (show Kd.M k64 _ _ _ (⟨0, 5, d % 4294967296⟩ : S64) [.int .i64 0, .int .i64 5, .int .u32 (d % 4294967296)] from (k64_mkM _ _ _ (⟨0, 5, d % 4294967296⟩ : S64))) (Reps.c3 (show Kd.M k64 _ _ _ (⟨5, 5, n % 4294967296⟩ : S64) [.int .i64 5, .int .i64 5, .int .u32 (n % 4294967296)] from (k64_mkM _ _ _ (⟨5, 5, n % 4294967296⟩ : S64))) (Reps.c3 (show Kd.M k64 _ _ _ (⟨10, 6, am % 4294967296⟩ : S64) [.int .i64 10, .int .i64 6, .int .u32 (am % 4294967296)] from (k64_mkM _ _ _ (⟨10, 6, am % 4294967296⟩ : S64))) (Reps.c3 (show Kd.M k64 _ _ _ (⟨16, 5, m % 4294967296⟩ : S64) [.int .i64 16, .int .i64 5, .int .u32 (m % 4294967296)] from (k64_mkM _ _ _ (⟨16, 5, m % 4294967296⟩ : S64))) (Reps.c3 (show Kd.M k64 _ _ _ (⟨22, 2, sh % 4294967296⟩ : S64) [.int .i64 22, .int .i64 2, .int .u32 (sh % 4294967296)] from (k64_mkM _ _ _ (⟨22, 2, sh % 4294967296⟩ : S64))) (Reps.none _ _))))))))
      intro v w1 ho hb hg_ hnew_
      clear hg_ hnew_
      have HO := Aside0.mk ho
      clear ho
      obtain ⟨Ao, co, eo⟩ := Kd.R_slice HO.out
      subst eo
      refine hK.out _ _ (hHeld.after hb) (fun hHeld => ?_)
      clear hK K hb
      refine norm_ (a' := ?_) ?_ ?_
      rotate_left
      · show Act.put _ (some 85) _ = _
        simp only [Act.put, List.setIfInBounds_toArray, List.set_cons_zero, List.set_cons_succ, i64_w, i32_w]
        rfl
      refine one_ (i := 10) (N := some 86) #[true, true, true, true, true, true, true, true, true, true, true, false] rfl rfl (by kernel_rfl) (by decide) (fun K hK => ?_)
      refine goes_ Tryd.func39 (by kernel_rfl) rfl #[.slice Ao (([(⟨0, 5, d % 4294967296⟩ : S64), (⟨5, 5, n % 4294967296⟩ : S64), (⟨10, 6, am % 4294967296⟩ : S64), (⟨16, 5, m % 4294967296⟩ : S64), (⟨22, 2, sh % 4294967296⟩ : S64)] : List S64)).length co] (by rfl) rfl rfl (by simp only [List.map_toArray, List.map_cons, List.map_nil]; rfl) ?_
      with_reducible refine (code_word.calls k _ _ ([(⟨0, 5, d % 4294967296⟩ : S64), (⟨5, 5, n % 4294967296⟩ : S64), (⟨10, 6, am % 4294967296⟩ : S64), (⟨16, 5, m % 4294967296⟩ : S64), (⟨22, 2, sh % 4294967296⟩ : S64)] : List S64) r _ (Kd.R_reads' HO.out).2.2 (Kd.R_reads' HO.out).2.1 HF.out).mono ?_
      rintro e w1 ⟨rfl, hb⟩
      refine ⟨_, rfl, ?_⟩
      refine hK.out _ _ (hHeld.after hb) (fun hHeld => ?_)
      clear hK K hb
      refine norm_ (a' := ?_) ?_ ?_
      rotate_left
      · show Act.put _ (some 86) _ = _
        simp only [Act.put, List.setIfInBounds_toArray, List.set_cons_zero, List.set_cons_succ, i64_w, i32_w]
        rfl
      refine pure_ (i := 11) (N := some 2) (v := ?_) (a' := ?_) #[true, true, true, true, true, true, true, true, true, true, true, true] rfl rfl (by kernel_rfl) (fun _ _ _ h => h) (Or.inl ⟨by rfl, ?_⟩) ?_ ?_
      rotate_left
      · intro w'
        go_simp
        with_reducible rfl
      rotate_left
      · simp only [Act.put, List.setIfInBounds_toArray, List.set_cons_zero, List.set_cons_succ, i64_w, i32_w]
        rfl
      refine done_ (by kernel_rfl) ?_
      go_wp2
      go_ret
      exact ⟨rfl, hHeld.bel⟩
    · -- shape 6
      have HF : Aside0 (code_word.f k ([(⟨0, 5, d % 4294967296⟩ : S64), (⟨5, 5, n % 4294967296⟩ : S64), (⟨10, 5, a % 4294967296⟩ : S64), (⟨16, 5, m % 4294967296⟩ : S64)] : List S64) = some r) := ⟨HF0.out⟩
      clear HF0
      go_wp2
      refine start_ (n := 9) (S := FlB w.heap.size b3 b4 b5 #[.int .i64 op, .int .i64 d, .int .i64 n, .int .i64 m, .int .i64 a, .int .i64 im, .int .u64 mk, .int .i64 sh, .int .i64 am, .int .i64 cn] d n m w) (ds := []) #[false, false, false, false, false, false, false, false, false] (by kernel_rfl) rfl rfl (HB.out.after (below_drew1 (Below.refl _ _))) (fun hHeld => ?_)
      refine pure_ (i := 2) (N := some 91) (v := ?_) (a' := ?_) #[false, false, true, false, false, false, false, false, false] rfl rfl (by kernel_rfl) (fun _ _ _ h => h) (Or.inl ⟨by rfl, ?_⟩) ?_ ?_
      rotate_left
      · intro w'
        go_simp
        with_reducible rfl
      rotate_left
      · simp only [Act.put, List.setIfInBounds_toArray, List.set_cons_zero, List.set_cons_succ, i64_w, i32_w]
        rfl
      refine take_ (i := 0) (N := some 89) (v := ?_) (a' := ?_) #[true, false, true, false, false, false, false, false, false] rfl rfl (by kernel_rfl) (fun _ _ _ h => h) (Or.inl ⟨by rfl, ?_⟩) hHeld ?_ ?_
      rotate_left
      · intro w' s
        have q0 := (blk_cell s.k3 0).trans rfl
        have q1 := (blk_cell s.k3 1).trans rfl
        have q2 := (blk_cell s.k3 2).trans rfl
        go_simp
        with_reducible rfl
      rotate_left
      · simp only [Act.put, List.setIfInBounds_toArray, List.set_cons_zero, List.set_cons_succ, i64_w, i32_w]
        rfl
      refine take_ (i := 1) (N := some 90) (v := ?_) (a' := ?_) #[true, true, true, false, false, false, false, false, false] rfl rfl (by kernel_rfl) (fun _ _ _ h => h) (Or.inl ⟨by rfl, ?_⟩) hHeld ?_ ?_
      rotate_left
      · intro w' s
        have q0 := (blk_cell s.k4 0).trans rfl
        have q1 := (blk_cell s.k4 1).trans rfl
        have q2 := (blk_cell s.k4 2).trans rfl
        go_simp
        with_reducible rfl
      rotate_left
      · simp only [Act.put, List.setIfInBounds_toArray, List.set_cons_zero, List.set_cons_succ, i64_w, i32_w]
        rfl
      refine take_ (i := 3) (N := some 92) (v := ?_) (a' := ?_) #[true, true, true, true, false, false, false, false, false] rfl rfl (by kernel_rfl) (fun _ _ _ h => h) (Or.inl ⟨by rfl, ?_⟩) hHeld ?_ ?_
      rotate_left
      · intro w' s
        have q0 := (blk_cell s.i 4).trans rfl
        go_simp
        with_reducible rfl
      rotate_left
      · simp only [Act.put, List.setIfInBounds_toArray, List.set_cons_zero, List.set_cons_succ, i64_w, i32_w]
        rfl
      refine take_ (i := 5) (N := some 94) (v := ?_) (a' := ?_) #[true, true, true, true, false, true, false, false, false] rfl rfl (by kernel_rfl) (fun _ _ _ h => h) (Or.inl ⟨by rfl, ?_⟩) hHeld ?_ ?_
      rotate_left
      · intro w' s
        have q0 := (blk_cell s.k5 0).trans rfl
        have q1 := (blk_cell s.k5 1).trans rfl
        have q2 := (blk_cell s.k5 2).trans rfl
        go_simp
        with_reducible rfl
      rotate_left
      · simp only [Act.put, List.setIfInBounds_toArray, List.set_cons_zero, List.set_cons_succ, i64_w, i32_w]
        rfl
      refine one_ (i := 4) (N := some 93) #[true, true, true, true, true, true, false, false, false] rfl rfl (by kernel_rfl) (by decide) (fun K hK => ?_)
      refine goes_ Tryd.func38 (by kernel_rfl) rfl #[.int .i64 10, .int .i64 5, .int .i64 (a)] (by rfl) rfl rfl (by simp only [List.map_toArray, List.map_cons, List.map_nil]; rfl) ?_
      with_reducible refine (code_field.calls _ _ _ _ _ _ _ rfl).mono ?_
      rintro e w1 ⟨rfl, hb⟩
      refine ⟨_, rfl, ?_⟩
      refine hK.out _ _ (hHeld.after hb) (fun hHeld => ?_)
      clear hK K hb
      refine norm_ (a' := ?_) ?_ ?_
      rotate_left
      · show Act.put _ (some 93) _ = _
        simp only [Act.put, List.setIfInBounds_toArray, List.set_cons_zero, List.set_cons_succ, i64_w, i32_w]
        rfl
      refine one_ (i := 6) (N := some 95) #[true, true, true, true, true, true, true, false, false] rfl rfl (by kernel_rfl) (by decide) (fun K hK => ?_)
      refine Kd.R_lit_step k64 _ 64 ?hg (N := 95) ?hd (xs := ([(⟨0, 5, d % 4294967296⟩ : S64), (⟨5, 5, n % 4294967296⟩ : S64), (⟨10, 5, a % 4294967296⟩ : S64), (⟨16, 5, m % 4294967296⟩ : S64)] : List S64)) (inner := [.int .i64 0, .int .i64 5, .int .u32 (d % 4294967296), .int .i64 5, .int .i64 5, .int .u32 (n % 4294967296), .int .i64 10, .int .i64 5, .int .u32 (a % 4294967296), .int .i64 16, .int .i64 5, .int .u32 (m % 4294967296)]) (ok := fun _ => True) (okp := fun _ => True) ?hr ?hp (fun _ hk => hk) trivial (Below.refl _ _) (Nat.le_refl _) (by simp) ?_; (case hd => rfl); (case hg => rfl); (case hr => first | (go_simp; done) | (go_simp; rfl)); (case hp => exact ((Reps.c3 (show Kd.M k64 _ _ _ (⟨0, 5, d % 4294967296⟩ : S64) [.int .i64 0, .int .i64 5, .int .u32 (d % 4294967296)] from (k64_mkM _ _ _ (⟨0, 5, d % 4294967296⟩ : S64))) (Reps.c3 (show Kd.M k64 _ _ _ (⟨5, 5, n % 4294967296⟩ : S64) [.int .i64 5, .int .i64 5, .int .u32 (n % 4294967296)] from (k64_mkM _ _ _ (⟨5, 5, n % 4294967296⟩ : S64))) (Reps.c3 (show Kd.M k64 _ _ _ (⟨10, 5, a % 4294967296⟩ : S64) [.int .i64 10, .int .i64 5, .int .u32 (a % 4294967296)] from (k64_mkM _ _ _ (⟨10, 5, a % 4294967296⟩ : S64))) (Reps.c3 (show Kd.M k64 _ _ _ (⟨16, 5, m % 4294967296⟩ : S64) [.int .i64 16, .int .i64 5, .int .u32 (m % 4294967296)] from (k64_mkM _ _ _ (⟨16, 5, m % 4294967296⟩ : S64))) (Reps.none _ _)))))))
      intro v w1 ho hb hg_ hnew_
      clear hg_ hnew_
      have HO := Aside0.mk ho
      clear ho
      obtain ⟨Ao, co, eo⟩ := Kd.R_slice HO.out
      subst eo
      refine hK.out _ _ (hHeld.after hb) (fun hHeld => ?_)
      clear hK K hb
      refine norm_ (a' := ?_) ?_ ?_
      rotate_left
      · show Act.put _ (some 95) _ = _
        simp only [Act.put, List.setIfInBounds_toArray, List.set_cons_zero, List.set_cons_succ, i64_w, i32_w]
        rfl
      refine one_ (i := 7) (N := some 96) #[true, true, true, true, true, true, true, true, false] rfl rfl (by kernel_rfl) (by decide) (fun K hK => ?_)
      refine goes_ Tryd.func39 (by kernel_rfl) rfl #[.slice Ao (([(⟨0, 5, d % 4294967296⟩ : S64), (⟨5, 5, n % 4294967296⟩ : S64), (⟨10, 5, a % 4294967296⟩ : S64), (⟨16, 5, m % 4294967296⟩ : S64)] : List S64)).length co] (by rfl) rfl rfl (by simp only [List.map_toArray, List.map_cons, List.map_nil]; rfl) ?_
      with_reducible refine (code_word.calls k _ _ ([(⟨0, 5, d % 4294967296⟩ : S64), (⟨5, 5, n % 4294967296⟩ : S64), (⟨10, 5, a % 4294967296⟩ : S64), (⟨16, 5, m % 4294967296⟩ : S64)] : List S64) r _ (Kd.R_reads' HO.out).2.2 (Kd.R_reads' HO.out).2.1 HF.out).mono ?_
      rintro e w1 ⟨rfl, hb⟩
      refine ⟨_, rfl, ?_⟩
      refine hK.out _ _ (hHeld.after hb) (fun hHeld => ?_)
      clear hK K hb
      refine norm_ (a' := ?_) ?_ ?_
      rotate_left
      · show Act.put _ (some 96) _ = _
        simp only [Act.put, List.setIfInBounds_toArray, List.set_cons_zero, List.set_cons_succ, i64_w, i32_w]
        rfl
      refine pure_ (i := 8) (N := some 2) (v := ?_) (a' := ?_) #[true, true, true, true, true, true, true, true, true] rfl rfl (by kernel_rfl) (fun _ _ _ h => h) (Or.inl ⟨by rfl, ?_⟩) ?_ ?_
      rotate_left
      · intro w'
        go_simp
        with_reducible rfl
      rotate_left
      · simp only [Act.put, List.setIfInBounds_toArray, List.set_cons_zero, List.set_cons_succ, i64_w, i32_w]
        rfl
      refine done_ (by kernel_rfl) ?_
      go_wp2
      go_ret
      exact ⟨rfl, hHeld.bel⟩
    · -- shape 7
      have HF : Aside0 (code_word.f k ([(⟨0, 5, d % 4294967296⟩ : S64), (⟨5, 5, n % 4294967296⟩ : S64), (⟨10, 12, (wrap64 (Int.tdiv im 8)) % 4294967296⟩ : S64)] : List S64) = some r) := ⟨HF0.out⟩
      clear HF0
      go_wp2
      refine start_ (n := 9) (S := FlB w.heap.size b3 b4 b5 #[.int .i64 op, .int .i64 d, .int .i64 n, .int .i64 m, .int .i64 a, .int .i64 im, .int .u64 mk, .int .i64 sh, .int .i64 am, .int .i64 cn] d n m w) (ds := []) #[false, false, false, false, false, false, false, false, false] (by kernel_rfl) rfl rfl (HB.out.after (below_drew1 (Below.refl _ _))) (fun hHeld => ?_)
      refine pure_ (i := 2) (N := some 101) (v := ?_) (a' := ?_) #[false, false, true, false, false, false, false, false, false] rfl rfl (by kernel_rfl) (fun _ _ _ h => h) (Or.inl ⟨by rfl, ?_⟩) ?_ ?_
      rotate_left
      · intro w'
        go_simp
        with_reducible rfl
      rotate_left
      · simp only [Act.put, List.setIfInBounds_toArray, List.set_cons_zero, List.set_cons_succ, i64_w, i32_w]
        rfl
      refine take_ (i := 0) (N := some 99) (v := ?_) (a' := ?_) #[true, false, true, false, false, false, false, false, false] rfl rfl (by kernel_rfl) (fun _ _ _ h => h) (Or.inl ⟨by rfl, ?_⟩) hHeld ?_ ?_
      rotate_left
      · intro w' s
        have q0 := (blk_cell s.k3 0).trans rfl
        have q1 := (blk_cell s.k3 1).trans rfl
        have q2 := (blk_cell s.k3 2).trans rfl
        go_simp
        with_reducible rfl
      rotate_left
      · simp only [Act.put, List.setIfInBounds_toArray, List.set_cons_zero, List.set_cons_succ, i64_w, i32_w]
        rfl
      refine take_ (i := 1) (N := some 100) (v := ?_) (a' := ?_) #[true, true, true, false, false, false, false, false, false] rfl rfl (by kernel_rfl) (fun _ _ _ h => h) (Or.inl ⟨by rfl, ?_⟩) hHeld ?_ ?_
      rotate_left
      · intro w' s
        have q0 := (blk_cell s.k4 0).trans rfl
        have q1 := (blk_cell s.k4 1).trans rfl
        have q2 := (blk_cell s.k4 2).trans rfl
        go_simp
        with_reducible rfl
      rotate_left
      · simp only [Act.put, List.setIfInBounds_toArray, List.set_cons_zero, List.set_cons_succ, i64_w, i32_w]
        rfl
      refine take_ (i := 3) (N := some 102) (v := ?_) (a' := ?_) #[true, true, true, true, false, false, false, false, false] rfl rfl (by kernel_rfl) (fun _ _ _ h => h) (Or.inl ⟨by rfl, ?_⟩) hHeld ?_ ?_
      rotate_left
      · intro w' s
        have q0 := (blk_cell s.i 5).trans rfl
        go_simp
        with_reducible rfl
      rotate_left
      · simp only [Act.put, List.setIfInBounds_toArray, List.set_cons_zero, List.set_cons_succ, i64_w, i32_w]
        rfl
      refine pure_ (i := 4) (N := some 103) (v := ?_) (a' := ?_) #[true, true, true, true, true, false, false, false, false] rfl rfl (by kernel_rfl) (fun _ _ _ h => h) (Or.inl ⟨by rfl, ?_⟩) ?_ ?_
      rotate_left
      · intro w'
        go_simp
        with_reducible rfl
      rotate_left
      · simp only [Act.put, List.setIfInBounds_toArray, List.set_cons_zero, List.set_cons_succ, i64_w, i32_w]
        rfl
      refine one_ (i := 5) (N := some 104) #[true, true, true, true, true, true, false, false, false] rfl rfl (by kernel_rfl) (by decide) (fun K hK => ?_)
      refine goes_ Tryd.func38 (by kernel_rfl) rfl #[.int .i64 10, .int .i64 12, .int .i64 (wrap64 (Int.tdiv im 8))] (by rfl) rfl rfl (by simp only [List.map_toArray, List.map_cons, List.map_nil]; rfl) ?_
      with_reducible refine (code_field.calls _ _ _ _ _ _ _ rfl).mono ?_
      rintro e w1 ⟨rfl, hb⟩
      refine ⟨_, rfl, ?_⟩
      refine hK.out _ _ (hHeld.after hb) (fun hHeld => ?_)
      clear hK K hb
      refine norm_ (a' := ?_) ?_ ?_
      rotate_left
      · show Act.put _ (some 104) _ = _
        simp only [Act.put, List.setIfInBounds_toArray, List.set_cons_zero, List.set_cons_succ, i64_w, i32_w]
        rfl
      refine one_ (i := 6) (N := some 105) #[true, true, true, true, true, true, true, false, false] rfl rfl (by kernel_rfl) (by decide) (fun K hK => ?_)
      refine Kd.R_lit_step k64 _ 64 ?hg (N := 105) ?hd (xs := ([(⟨0, 5, d % 4294967296⟩ : S64), (⟨5, 5, n % 4294967296⟩ : S64), (⟨10, 12, (wrap64 (Int.tdiv im 8)) % 4294967296⟩ : S64)] : List S64)) (inner := [.int .i64 0, .int .i64 5, .int .u32 (d % 4294967296), .int .i64 5, .int .i64 5, .int .u32 (n % 4294967296), .int .i64 10, .int .i64 12, .int .u32 ((wrap64 (Int.tdiv im 8)) % 4294967296)]) (ok := fun _ => True) (okp := fun _ => True) ?hr ?hp (fun _ hk => hk) trivial (Below.refl _ _) (Nat.le_refl _) (by simp) ?_; (case hd => rfl); (case hg => rfl); (case hr => first | (go_simp; done) | (go_simp; rfl)); (case hp => exact ((Reps.c3 (show Kd.M k64 _ _ _ (⟨0, 5, d % 4294967296⟩ : S64) [.int .i64 0, .int .i64 5, .int .u32 (d % 4294967296)] from (k64_mkM _ _ _ (⟨0, 5, d % 4294967296⟩ : S64))) (Reps.c3 (show Kd.M k64 _ _ _ (⟨5, 5, n % 4294967296⟩ : S64) [.int .i64 5, .int .i64 5, .int .u32 (n % 4294967296)] from (k64_mkM _ _ _ (⟨5, 5, n % 4294967296⟩ : S64))) (Reps.c3 (show Kd.M k64 _ _ _ (⟨10, 12, (wrap64 (Int.tdiv im 8)) % 4294967296⟩ : S64) [.int .i64 10, .int .i64 12, .int .u32 ((wrap64 (Int.tdiv im 8)) % 4294967296)] from (k64_mkM _ _ _ (⟨10, 12, (wrap64 (Int.tdiv im 8)) % 4294967296⟩ : S64))) (Reps.none _ _))))))
      intro v w1 ho hb hg_ hnew_
      clear hg_ hnew_
      have HO := Aside0.mk ho
      clear ho
      obtain ⟨Ao, co, eo⟩ := Kd.R_slice HO.out
      subst eo
      refine hK.out _ _ (hHeld.after hb) (fun hHeld => ?_)
      clear hK K hb
      refine norm_ (a' := ?_) ?_ ?_
      rotate_left
      · show Act.put _ (some 105) _ = _
        simp only [Act.put, List.setIfInBounds_toArray, List.set_cons_zero, List.set_cons_succ, i64_w, i32_w]
        rfl
      refine one_ (i := 7) (N := some 106) #[true, true, true, true, true, true, true, true, false] rfl rfl (by kernel_rfl) (by decide) (fun K hK => ?_)
      refine goes_ Tryd.func39 (by kernel_rfl) rfl #[.slice Ao (([(⟨0, 5, d % 4294967296⟩ : S64), (⟨5, 5, n % 4294967296⟩ : S64), (⟨10, 12, (wrap64 (Int.tdiv im 8)) % 4294967296⟩ : S64)] : List S64)).length co] (by rfl) rfl rfl (by simp only [List.map_toArray, List.map_cons, List.map_nil]; rfl) ?_
      with_reducible refine (code_word.calls k _ _ ([(⟨0, 5, d % 4294967296⟩ : S64), (⟨5, 5, n % 4294967296⟩ : S64), (⟨10, 12, (wrap64 (Int.tdiv im 8)) % 4294967296⟩ : S64)] : List S64) r _ (Kd.R_reads' HO.out).2.2 (Kd.R_reads' HO.out).2.1 HF.out).mono ?_
      rintro e w1 ⟨rfl, hb⟩
      refine ⟨_, rfl, ?_⟩
      refine hK.out _ _ (hHeld.after hb) (fun hHeld => ?_)
      clear hK K hb
      refine norm_ (a' := ?_) ?_ ?_
      rotate_left
      · show Act.put _ (some 106) _ = _
        simp only [Act.put, List.setIfInBounds_toArray, List.set_cons_zero, List.set_cons_succ, i64_w, i32_w]
        rfl
      refine pure_ (i := 8) (N := some 2) (v := ?_) (a' := ?_) #[true, true, true, true, true, true, true, true, true] rfl rfl (by kernel_rfl) (fun _ _ _ h => h) (Or.inl ⟨by rfl, ?_⟩) ?_ ?_
      rotate_left
      · intro w'
        go_simp
        with_reducible rfl
      rotate_left
      · simp only [Act.put, List.setIfInBounds_toArray, List.set_cons_zero, List.set_cons_succ, i64_w, i32_w]
        rfl
      refine done_ (by kernel_rfl) ?_
      go_wp2
      go_ret
      exact ⟨rfl, hHeld.bel⟩
    · -- shape 8
      have HF : Aside0 (code_word.f k ([(⟨0, 5, d % 4294967296⟩ : S64), (⟨5, 5, n % 4294967296⟩ : S64), (⟨10, 12, im % 4294967296⟩ : S64)] : List S64) = some r) := ⟨HF0.out⟩
      clear HF0
      go_wp2
      refine start_ (n := 8) (S := FlB w.heap.size b3 b4 b5 #[.int .i64 op, .int .i64 d, .int .i64 n, .int .i64 m, .int .i64 a, .int .i64 im, .int .u64 mk, .int .i64 sh, .int .i64 am, .int .i64 cn] d n m w) (ds := []) #[false, false, false, false, false, false, false, false] (by kernel_rfl) rfl rfl (HB.out.after (below_drew1 (Below.refl _ _))) (fun hHeld => ?_)
      refine pure_ (i := 2) (N := some 111) (v := ?_) (a' := ?_) #[false, false, true, false, false, false, false, false] rfl rfl (by kernel_rfl) (fun _ _ _ h => h) (Or.inl ⟨by rfl, ?_⟩) ?_ ?_
      rotate_left
      · intro w'
        go_simp
        with_reducible rfl
      rotate_left
      · simp only [Act.put, List.setIfInBounds_toArray, List.set_cons_zero, List.set_cons_succ, i64_w, i32_w]
        rfl
      refine take_ (i := 0) (N := some 109) (v := ?_) (a' := ?_) #[true, false, true, false, false, false, false, false] rfl rfl (by kernel_rfl) (fun _ _ _ h => h) (Or.inl ⟨by rfl, ?_⟩) hHeld ?_ ?_
      rotate_left
      · intro w' s
        have q0 := (blk_cell s.k3 0).trans rfl
        have q1 := (blk_cell s.k3 1).trans rfl
        have q2 := (blk_cell s.k3 2).trans rfl
        go_simp
        with_reducible rfl
      rotate_left
      · simp only [Act.put, List.setIfInBounds_toArray, List.set_cons_zero, List.set_cons_succ, i64_w, i32_w]
        rfl
      refine take_ (i := 1) (N := some 110) (v := ?_) (a' := ?_) #[true, true, true, false, false, false, false, false] rfl rfl (by kernel_rfl) (fun _ _ _ h => h) (Or.inl ⟨by rfl, ?_⟩) hHeld ?_ ?_
      rotate_left
      · intro w' s
        have q0 := (blk_cell s.k4 0).trans rfl
        have q1 := (blk_cell s.k4 1).trans rfl
        have q2 := (blk_cell s.k4 2).trans rfl
        go_simp
        with_reducible rfl
      rotate_left
      · simp only [Act.put, List.setIfInBounds_toArray, List.set_cons_zero, List.set_cons_succ, i64_w, i32_w]
        rfl
      refine take_ (i := 3) (N := some 112) (v := ?_) (a' := ?_) #[true, true, true, true, false, false, false, false] rfl rfl (by kernel_rfl) (fun _ _ _ h => h) (Or.inl ⟨by rfl, ?_⟩) hHeld ?_ ?_
      rotate_left
      · intro w' s
        have q0 := (blk_cell s.i 5).trans rfl
        go_simp
        with_reducible rfl
      rotate_left
      · simp only [Act.put, List.setIfInBounds_toArray, List.set_cons_zero, List.set_cons_succ, i64_w, i32_w]
        rfl
      refine one_ (i := 4) (N := some 113) #[true, true, true, true, true, false, false, false] rfl rfl (by kernel_rfl) (by decide) (fun K hK => ?_)
      refine goes_ Tryd.func38 (by kernel_rfl) rfl #[.int .i64 10, .int .i64 12, .int .i64 (im)] (by rfl) rfl rfl (by simp only [List.map_toArray, List.map_cons, List.map_nil]; rfl) ?_
      with_reducible refine (code_field.calls _ _ _ _ _ _ _ rfl).mono ?_
      rintro e w1 ⟨rfl, hb⟩
      refine ⟨_, rfl, ?_⟩
      refine hK.out _ _ (hHeld.after hb) (fun hHeld => ?_)
      clear hK K hb
      refine norm_ (a' := ?_) ?_ ?_
      rotate_left
      · show Act.put _ (some 113) _ = _
        simp only [Act.put, List.setIfInBounds_toArray, List.set_cons_zero, List.set_cons_succ, i64_w, i32_w]
        rfl
      refine one_ (i := 5) (N := some 114) #[true, true, true, true, true, true, false, false] rfl rfl (by kernel_rfl) (by decide) (fun K hK => ?_)
      refine Kd.R_lit_step k64 _ 64 ?hg (N := 114) ?hd (xs := ([(⟨0, 5, d % 4294967296⟩ : S64), (⟨5, 5, n % 4294967296⟩ : S64), (⟨10, 12, im % 4294967296⟩ : S64)] : List S64)) (inner := [.int .i64 0, .int .i64 5, .int .u32 (d % 4294967296), .int .i64 5, .int .i64 5, .int .u32 (n % 4294967296), .int .i64 10, .int .i64 12, .int .u32 (im % 4294967296)]) (ok := fun _ => True) (okp := fun _ => True) ?hr ?hp (fun _ hk => hk) trivial (Below.refl _ _) (Nat.le_refl _) (by simp) ?_; (case hd => rfl); (case hg => rfl); (case hr => first | (go_simp; done) | (go_simp; rfl)); (case hp => exact ((Reps.c3 (show Kd.M k64 _ _ _ (⟨0, 5, d % 4294967296⟩ : S64) [.int .i64 0, .int .i64 5, .int .u32 (d % 4294967296)] from (k64_mkM _ _ _ (⟨0, 5, d % 4294967296⟩ : S64))) (Reps.c3 (show Kd.M k64 _ _ _ (⟨5, 5, n % 4294967296⟩ : S64) [.int .i64 5, .int .i64 5, .int .u32 (n % 4294967296)] from (k64_mkM _ _ _ (⟨5, 5, n % 4294967296⟩ : S64))) (Reps.c3 (show Kd.M k64 _ _ _ (⟨10, 12, im % 4294967296⟩ : S64) [.int .i64 10, .int .i64 12, .int .u32 (im % 4294967296)] from (k64_mkM _ _ _ (⟨10, 12, im % 4294967296⟩ : S64))) (Reps.none _ _))))))
      intro v w1 ho hb hg_ hnew_
      clear hg_ hnew_
      have HO := Aside0.mk ho
      clear ho
      obtain ⟨Ao, co, eo⟩ := Kd.R_slice HO.out
      subst eo
      refine hK.out _ _ (hHeld.after hb) (fun hHeld => ?_)
      clear hK K hb
      refine norm_ (a' := ?_) ?_ ?_
      rotate_left
      · show Act.put _ (some 114) _ = _
        simp only [Act.put, List.setIfInBounds_toArray, List.set_cons_zero, List.set_cons_succ, i64_w, i32_w]
        rfl
      refine one_ (i := 6) (N := some 115) #[true, true, true, true, true, true, true, false] rfl rfl (by kernel_rfl) (by decide) (fun K hK => ?_)
      refine goes_ Tryd.func39 (by kernel_rfl) rfl #[.slice Ao (([(⟨0, 5, d % 4294967296⟩ : S64), (⟨5, 5, n % 4294967296⟩ : S64), (⟨10, 12, im % 4294967296⟩ : S64)] : List S64)).length co] (by rfl) rfl rfl (by simp only [List.map_toArray, List.map_cons, List.map_nil]; rfl) ?_
      with_reducible refine (code_word.calls k _ _ ([(⟨0, 5, d % 4294967296⟩ : S64), (⟨5, 5, n % 4294967296⟩ : S64), (⟨10, 12, im % 4294967296⟩ : S64)] : List S64) r _ (Kd.R_reads' HO.out).2.2 (Kd.R_reads' HO.out).2.1 HF.out).mono ?_
      rintro e w1 ⟨rfl, hb⟩
      refine ⟨_, rfl, ?_⟩
      refine hK.out _ _ (hHeld.after hb) (fun hHeld => ?_)
      clear hK K hb
      refine norm_ (a' := ?_) ?_ ?_
      rotate_left
      · show Act.put _ (some 115) _ = _
        simp only [Act.put, List.setIfInBounds_toArray, List.set_cons_zero, List.set_cons_succ, i64_w, i32_w]
        rfl
      refine pure_ (i := 7) (N := some 2) (v := ?_) (a' := ?_) #[true, true, true, true, true, true, true, true] rfl rfl (by kernel_rfl) (fun _ _ _ h => h) (Or.inl ⟨by rfl, ?_⟩) ?_ ?_
      rotate_left
      · intro w'
        go_simp
        with_reducible rfl
      rotate_left
      · simp only [Act.put, List.setIfInBounds_toArray, List.set_cons_zero, List.set_cons_succ, i64_w, i32_w]
        rfl
      refine done_ (by kernel_rfl) ?_
      go_wp2
      go_ret
      exact ⟨rfl, hHeld.bel⟩
    · -- shape 9
      obtain ⟨⟨p0, p1, p2⟩, hP, hF⟩ := Option.bind_eq_some_iff.mp HF0.out
      have HP := Aside0.mk hP
      have HF : Aside0 (code_word.f k ([(⟨0, 5, d % 4294967296⟩ : S64), (⟨p0, p1, p2⟩ : S64)] : List S64) = some r) := ⟨hF⟩
      clear hP hF HF0
      go_wp2
      refine start_ (n := 8) (S := FlB w.heap.size b3 b4 b5 #[.int .i64 op, .int .i64 d, .int .i64 n, .int .i64 m, .int .i64 a, .int .i64 im, .int .u64 mk, .int .i64 sh, .int .i64 am, .int .i64 cn] d n m w) (ds := []) #[false, false, false, false, false, false, false, false] (by kernel_rfl) rfl rfl (HB.out.after (below_drew1 (Below.refl _ _))) (fun hHeld => ?_)
      refine pure_ (i := 1) (N := some 119) (v := ?_) (a' := ?_) #[false, true, false, false, false, false, false, false] rfl rfl (by kernel_rfl) (fun _ _ _ h => h) (Or.inl ⟨by rfl, ?_⟩) ?_ ?_
      rotate_left
      · intro w'
        go_simp
        with_reducible rfl
      rotate_left
      · simp only [Act.put, List.setIfInBounds_toArray, List.set_cons_zero, List.set_cons_succ, i64_w, i32_w]
        rfl
      refine take_ (i := 0) (N := some 118) (v := ?_) (a' := ?_) #[true, true, false, false, false, false, false, false] rfl rfl (by kernel_rfl) (fun _ _ _ h => h) (Or.inl ⟨by rfl, ?_⟩) hHeld ?_ ?_
      rotate_left
      · intro w' s
        have q0 := (blk_cell s.k3 0).trans rfl
        have q1 := (blk_cell s.k3 1).trans rfl
        have q2 := (blk_cell s.k3 2).trans rfl
        go_simp
        with_reducible rfl
      rotate_left
      · simp only [Act.put, List.setIfInBounds_toArray, List.set_cons_zero, List.set_cons_succ, i64_w, i32_w]
        rfl
      refine take_ (i := 2) (N := some 120) (v := ?_) (a' := ?_) #[true, true, true, false, false, false, false, false] rfl rfl (by kernel_rfl) (fun _ _ _ h => h) (Or.inl ⟨by rfl, ?_⟩) hHeld ?_ ?_
      rotate_left
      · intro w' s
        have q0 := (blk_cell s.i 5).trans rfl
        go_simp
        with_reducible rfl
      rotate_left
      · simp only [Act.put, List.setIfInBounds_toArray, List.set_cons_zero, List.set_cons_succ, i64_w, i32_w]
        rfl
      refine pure_ (i := 3) (N := some 121) (v := ?_) (a' := ?_) #[true, true, true, true, false, false, false, false] rfl rfl (by kernel_rfl) (fun _ _ _ h => h) (Or.inl ⟨by rfl, ?_⟩) ?_ ?_
      rotate_left
      · intro w'
        go_simp
        with_reducible rfl
      rotate_left
      · simp only [Act.put, List.setIfInBounds_toArray, List.set_cons_zero, List.set_cons_succ, i64_w, i32_w]
        rfl
      refine one_ (i := 4) (N := some 122) #[true, true, true, true, true, false, false, false] rfl rfl (by kernel_rfl) (by decide) (fun K hK => ?_)
      refine goes_ Tryd.func41 (by kernel_rfl) rfl #[.int .i64 5, .int .i64 19, .int .i64 (wrap64 (Int.tdiv im 4))] (by rfl) rfl rfl (by simp only [List.map_toArray, List.map_cons, List.map_nil]; rfl) ?_
      with_reducible refine (code_packed.calls k _ _ _ p0 p1 p2 _ HP.out).mono ?_
      rintro e w1 ⟨rfl, hb⟩
      refine ⟨_, rfl, ?_⟩
      refine hK.out _ _ (hHeld.after hb) (fun hHeld => ?_)
      clear hK K hb
      refine norm_ (a' := ?_) ?_ ?_
      rotate_left
      · show Act.put _ (some 122) _ = _
        simp only [Act.put, List.setIfInBounds_toArray, List.set_cons_zero, List.set_cons_succ, i64_w, i32_w]
        rfl
      refine one_ (i := 5) (N := some 123) #[true, true, true, true, true, true, false, false] rfl rfl (by kernel_rfl) (by decide) (fun K hK => ?_)
      refine Kd.R_lit_step k64 _ 64 ?hg (N := 123) ?hd (xs := ([(⟨0, 5, d % 4294967296⟩ : S64), (⟨p0, p1, p2⟩ : S64)] : List S64)) (inner := [.int .i64 0, .int .i64 5, .int .u32 (d % 4294967296), .int .i64 p0, .int .i64 p1, .int .u32 (p2)]) (ok := fun _ => True) (okp := fun _ => True) ?hr ?hp (fun _ hk => hk) trivial (Below.refl _ _) (Nat.le_refl _) (by simp) ?_; (case hd => rfl); (case hg => rfl); (case hr => first | (go_simp; done) | (go_simp; rfl)); (case hp => exact ((Reps.c3 (show Kd.M k64 _ _ _ (⟨0, 5, d % 4294967296⟩ : S64) [.int .i64 0, .int .i64 5, .int .u32 (d % 4294967296)] from (k64_mkM _ _ _ (⟨0, 5, d % 4294967296⟩ : S64))) (Reps.c3 (show Kd.M k64 _ _ _ (⟨p0, p1, p2⟩ : S64) [.int .i64 p0, .int .i64 p1, .int .u32 (p2)] from (k64_mkM _ _ _ (⟨p0, p1, p2⟩ : S64))) (Reps.none _ _)))))
      intro v w1 ho hb hg_ hnew_
      clear hg_ hnew_
      have HO := Aside0.mk ho
      clear ho
      obtain ⟨Ao, co, eo⟩ := Kd.R_slice HO.out
      subst eo
      refine hK.out _ _ (hHeld.after hb) (fun hHeld => ?_)
      clear hK K hb
      refine norm_ (a' := ?_) ?_ ?_
      rotate_left
      · show Act.put _ (some 123) _ = _
        simp only [Act.put, List.setIfInBounds_toArray, List.set_cons_zero, List.set_cons_succ, i64_w, i32_w]
        rfl
      refine one_ (i := 6) (N := some 124) #[true, true, true, true, true, true, true, false] rfl rfl (by kernel_rfl) (by decide) (fun K hK => ?_)
      refine goes_ Tryd.func39 (by kernel_rfl) rfl #[.slice Ao (([(⟨0, 5, d % 4294967296⟩ : S64), (⟨p0, p1, p2⟩ : S64)] : List S64)).length co] (by rfl) rfl rfl (by simp only [List.map_toArray, List.map_cons, List.map_nil]; rfl) ?_
      with_reducible refine (code_word.calls k _ _ ([(⟨0, 5, d % 4294967296⟩ : S64), (⟨p0, p1, p2⟩ : S64)] : List S64) r _ (Kd.R_reads' HO.out).2.2 (Kd.R_reads' HO.out).2.1 HF.out).mono ?_
      rintro e w1 ⟨rfl, hb⟩
      refine ⟨_, rfl, ?_⟩
      refine hK.out _ _ (hHeld.after hb) (fun hHeld => ?_)
      clear hK K hb
      refine norm_ (a' := ?_) ?_ ?_
      rotate_left
      · show Act.put _ (some 124) _ = _
        simp only [Act.put, List.setIfInBounds_toArray, List.set_cons_zero, List.set_cons_succ, i64_w, i32_w]
        rfl
      refine pure_ (i := 7) (N := some 2) (v := ?_) (a' := ?_) #[true, true, true, true, true, true, true, true] rfl rfl (by kernel_rfl) (fun _ _ _ h => h) (Or.inl ⟨by rfl, ?_⟩) ?_ ?_
      rotate_left
      · intro w'
        go_simp
        with_reducible rfl
      rotate_left
      · simp only [Act.put, List.setIfInBounds_toArray, List.set_cons_zero, List.set_cons_succ, i64_w, i32_w]
        rfl
      refine done_ (by kernel_rfl) ?_
      go_wp2
      go_ret
      exact ⟨rfl, hHeld.bel⟩
    · -- shape 10
      obtain ⟨⟨v0, v1⟩, hP, hF⟩ := Option.bind_eq_some_iff.mp HF0.out
      obtain ⟨⟨x1, y1⟩, hX, hF⟩ := Option.bind_eq_some_iff.mp hF
      obtain ⟨⟨x2, y2⟩, hY, hF⟩ := Option.bind_eq_some_iff.mp hF
      have HP := Aside0.mk hP
      have HX := Aside0.mk hX
      have HY := Aside0.mk hY
      have HF : Aside0 (code_word.f k ([(⟨0, 5, d % 4294967296⟩ : S64), (⟨5, 19, (wrap64 x2) % 4294967296⟩ : S64), (⟨29, 2, (wrap64 x1) % 4294967296⟩ : S64)] : List S64) = some r) := ⟨hF⟩
      clear hP hX hY hF HF0
      have q5 := (blk_cell HB.out.i 5).trans rfl
      go_wp2_with (fail)
      clear q5
      refine (bits_Pack.calls k im 21 v0 v1 _ HP.out).mono ?_
      rintro e w1 ⟨rfl, hb⟩
      replace HB := Aside0.mk (HB.out.after hb.below)
      clear hb
      go_wp2_with (fail)
      refine (bits_Field.calls v0 0 2 x1 y1 _ HX.out).mono ?_
      rintro e w1 ⟨rfl, hb⟩
      replace HB := Aside0.mk (HB.out.after hb.below)
      clear hb
      go_wp2_with (fail)
      refine (bits_Field.calls v0 2 19 x2 y2 _ HY.out).mono ?_
      rintro e w1 ⟨rfl, hb⟩
      replace HB := Aside0.mk (HB.out.after hb.below)
      clear hb
      go_wp2
      refine start_ (n := 10) (S := FlB w.heap.size b3 b4 b5 #[.int .i64 op, .int .i64 d, .int .i64 n, .int .i64 m, .int .i64 a, .int .i64 im, .int .u64 mk, .int .i64 sh, .int .i64 am, .int .i64 cn] d n m w) (ds := []) #[false, false, false, false, false, false, false, false, false, false] (by kernel_rfl) rfl rfl (HB.out.after (below_drew1 (Below.refl _ _))) (fun hHeld => ?_)
      refine pure_ (i := 1) (N := some 144) (v := ?_) (a' := ?_) #[false, true, false, false, false, false, false, false, false, false] rfl rfl (by kernel_rfl) (fun _ _ _ h => h) (Or.inl ⟨by rfl, ?_⟩) ?_ ?_
      rotate_left
      · intro w'
        go_simp
        with_reducible rfl
      rotate_left
      · simp only [Act.put, List.setIfInBounds_toArray, List.set_cons_zero, List.set_cons_succ, i64_w, i32_w]
        rfl
      refine pure_ (i := 2) (N := some 145) (v := ?_) (a' := ?_) #[false, true, true, false, false, false, false, false, false, false] rfl rfl (by kernel_rfl) (fun _ _ _ h => h) (Or.inl ⟨by rfl, ?_⟩) ?_ ?_
      rotate_left
      · intro w'
        go_simp
        with_reducible rfl
      rotate_left
      · simp only [Act.put, List.setIfInBounds_toArray, List.set_cons_zero, List.set_cons_succ, i64_w, i32_w]
        rfl
      refine pure_ (i := 4) (N := some 147) (v := ?_) (a' := ?_) #[false, true, true, false, true, false, false, false, false, false] rfl rfl (by kernel_rfl) (fun _ _ _ h => h) (Or.inl ⟨by rfl, ?_⟩) ?_ ?_
      rotate_left
      · intro w'
        go_simp
        with_reducible rfl
      rotate_left
      · simp only [Act.put, List.setIfInBounds_toArray, List.set_cons_zero, List.set_cons_succ, i64_w, i32_w]
        rfl
      refine pure_ (i := 5) (N := some 148) (v := ?_) (a' := ?_) #[false, true, true, false, true, true, false, false, false, false] rfl rfl (by kernel_rfl) (fun _ _ _ h => h) (Or.inl ⟨by rfl, ?_⟩) ?_ ?_
      rotate_left
      · intro w'
        go_simp
        with_reducible rfl
      rotate_left
      · simp only [Act.put, List.setIfInBounds_toArray, List.set_cons_zero, List.set_cons_succ, i64_w, i32_w]
        rfl
      refine take_ (i := 0) (N := some 143) (v := ?_) (a' := ?_) #[true, true, true, false, true, true, false, false, false, false] rfl rfl (by kernel_rfl) (fun _ _ _ h => h) (Or.inl ⟨by rfl, ?_⟩) hHeld ?_ ?_
      rotate_left
      · intro w' s
        have q0 := (blk_cell s.k3 0).trans rfl
        have q1 := (blk_cell s.k3 1).trans rfl
        have q2 := (blk_cell s.k3 2).trans rfl
        go_simp
        with_reducible rfl
      rotate_left
      · simp only [Act.put, List.setIfInBounds_toArray, List.set_cons_zero, List.set_cons_succ, i64_w, i32_w]
        rfl
      refine one_ (i := 3) (N := some 146) #[true, true, true, true, true, true, false, false, false, false] rfl rfl (by kernel_rfl) (by decide) (fun K hK => ?_)
      refine goes_ Tryd.func38 (by kernel_rfl) rfl #[.int .i64 5, .int .i64 19, .int .i64 (wrap64 x2)] (by rfl) rfl rfl (by simp only [List.map_toArray, List.map_cons, List.map_nil]; rfl) ?_
      with_reducible refine (code_field.calls _ _ _ _ _ _ _ rfl).mono ?_
      rintro e w1 ⟨rfl, hb⟩
      refine ⟨_, rfl, ?_⟩
      refine hK.out _ _ (hHeld.after hb) (fun hHeld => ?_)
      clear hK K hb
      refine norm_ (a' := ?_) ?_ ?_
      rotate_left
      · show Act.put _ (some 146) _ = _
        simp only [Act.put, List.setIfInBounds_toArray, List.set_cons_zero, List.set_cons_succ, i64_w, i32_w]
        rfl
      refine one_ (i := 6) (N := some 149) #[true, true, true, true, true, true, true, false, false, false] rfl rfl (by kernel_rfl) (by decide) (fun K hK => ?_)
      refine goes_ Tryd.func38 (by kernel_rfl) rfl #[.int .i64 29, .int .i64 2, .int .i64 (wrap64 x1)] (by rfl) rfl rfl (by simp only [List.map_toArray, List.map_cons, List.map_nil]; rfl) ?_
      with_reducible refine (code_field.calls _ _ _ _ _ _ _ rfl).mono ?_
      rintro e w1 ⟨rfl, hb⟩
      refine ⟨_, rfl, ?_⟩
      refine hK.out _ _ (hHeld.after hb) (fun hHeld => ?_)
      clear hK K hb
      refine norm_ (a' := ?_) ?_ ?_
      rotate_left
      · show Act.put _ (some 149) _ = _
        simp only [Act.put, List.setIfInBounds_toArray, List.set_cons_zero, List.set_cons_succ, i64_w, i32_w]
        rfl
      refine one_ (i := 7) (N := some 150) #[true, true, true, true, true, true, true, true, false, false] rfl rfl (by kernel_rfl) (by decide) (fun K hK => ?_)
      refine Kd.R_lit_step k64 _ 64 ?hg (N := 150) ?hd (xs := ([(⟨0, 5, d % 4294967296⟩ : S64), (⟨5, 19, (wrap64 x2) % 4294967296⟩ : S64), (⟨29, 2, (wrap64 x1) % 4294967296⟩ : S64)] : List S64)) (inner := [.int .i64 0, .int .i64 5, .int .u32 (d % 4294967296), .int .i64 5, .int .i64 19, .int .u32 ((wrap64 x2) % 4294967296), .int .i64 29, .int .i64 2, .int .u32 ((wrap64 x1) % 4294967296)]) (ok := fun _ => True) (okp := fun _ => True) ?hr ?hp (fun _ hk => hk) trivial (Below.refl _ _) (Nat.le_refl _) (by simp) ?_; (case hd => rfl); (case hg => rfl); (case hr => first | (go_simp; done) | (go_simp; rfl)); (case hp => exact ((Reps.c3 (show Kd.M k64 _ _ _ (⟨0, 5, d % 4294967296⟩ : S64) [.int .i64 0, .int .i64 5, .int .u32 (d % 4294967296)] from (k64_mkM _ _ _ (⟨0, 5, d % 4294967296⟩ : S64))) (Reps.c3 (show Kd.M k64 _ _ _ (⟨5, 19, (wrap64 x2) % 4294967296⟩ : S64) [.int .i64 5, .int .i64 19, .int .u32 ((wrap64 x2) % 4294967296)] from (k64_mkM _ _ _ (⟨5, 19, (wrap64 x2) % 4294967296⟩ : S64))) (Reps.c3 (show Kd.M k64 _ _ _ (⟨29, 2, (wrap64 x1) % 4294967296⟩ : S64) [.int .i64 29, .int .i64 2, .int .u32 ((wrap64 x1) % 4294967296)] from (k64_mkM _ _ _ (⟨29, 2, (wrap64 x1) % 4294967296⟩ : S64))) (Reps.none _ _))))))
      intro v w1 ho hb hg_ hnew_
      clear hg_ hnew_
      have HO := Aside0.mk ho
      clear ho
      obtain ⟨Ao, co, eo⟩ := Kd.R_slice HO.out
      subst eo
      refine hK.out _ _ (hHeld.after hb) (fun hHeld => ?_)
      clear hK K hb
      refine norm_ (a' := ?_) ?_ ?_
      rotate_left
      · show Act.put _ (some 150) _ = _
        simp only [Act.put, List.setIfInBounds_toArray, List.set_cons_zero, List.set_cons_succ, i64_w, i32_w]
        rfl
      refine one_ (i := 8) (N := some 151) #[true, true, true, true, true, true, true, true, true, false] rfl rfl (by kernel_rfl) (by decide) (fun K hK => ?_)
      refine goes_ Tryd.func39 (by kernel_rfl) rfl #[.slice Ao (([(⟨0, 5, d % 4294967296⟩ : S64), (⟨5, 19, (wrap64 x2) % 4294967296⟩ : S64), (⟨29, 2, (wrap64 x1) % 4294967296⟩ : S64)] : List S64)).length co] (by rfl) rfl rfl (by simp only [List.map_toArray, List.map_cons, List.map_nil]; rfl) ?_
      with_reducible refine (code_word.calls k _ _ ([(⟨0, 5, d % 4294967296⟩ : S64), (⟨5, 19, (wrap64 x2) % 4294967296⟩ : S64), (⟨29, 2, (wrap64 x1) % 4294967296⟩ : S64)] : List S64) r _ (Kd.R_reads' HO.out).2.2 (Kd.R_reads' HO.out).2.1 HF.out).mono ?_
      rintro e w1 ⟨rfl, hb⟩
      refine ⟨_, rfl, ?_⟩
      refine hK.out _ _ (hHeld.after hb) (fun hHeld => ?_)
      clear hK K hb
      refine norm_ (a' := ?_) ?_ ?_
      rotate_left
      · show Act.put _ (some 151) _ = _
        simp only [Act.put, List.setIfInBounds_toArray, List.set_cons_zero, List.set_cons_succ, i64_w, i32_w]
        rfl
      refine pure_ (i := 9) (N := some 2) (v := ?_) (a' := ?_) #[true, true, true, true, true, true, true, true, true, true] rfl rfl (by kernel_rfl) (fun _ _ _ h => h) (Or.inl ⟨by rfl, ?_⟩) ?_ ?_
      rotate_left
      · intro w'
        go_simp
        with_reducible rfl
      rotate_left
      · simp only [Act.put, List.setIfInBounds_toArray, List.set_cons_zero, List.set_cons_succ, i64_w, i32_w]
        rfl
      refine done_ (by kernel_rfl) ?_
      go_wp2
      go_ret
      exact ⟨rfl, hHeld.bel⟩
    · -- shape 11
      obtain ⟨⟨p0, p1, p2⟩, hP, hF⟩ := Option.bind_eq_some_iff.mp HF0.out
      have HP := Aside0.mk hP
      have HF : Aside0 (code_word.f k ([(⟨p0, p1, p2⟩ : S64)] : List S64) = some r) := ⟨hF⟩
      clear hP hF HF0
      have q5 := (blk_cell HB.out.i 5).trans rfl
      go_wp2_with (fail)
      clear q5
      refine (code_packed.calls k _ _ _ p0 p1 p2 _ HP.out).mono ?_
      rintro e w1 ⟨rfl, hb⟩
      replace HB := Aside0.mk (HB.out.after hb)
      clear hb
      go_wp2_with (first | ((with_reducible refine gate_dst (N := 158) rfl ?_); refine Kd.R_lit k64 _ 64 ?hg (N := 158) ?hd (xs := ([(⟨p0, p1, p2⟩ : S64)] : List S64)) (inner := [.int .i64 p0, .int .i64 p1, .int .u32 (p2)]) (ok := fun _ => True) (okp := fun _ => True) ?hr ?hp (fun _ hk => hk) trivial (Below.refl _ _) (Nat.le_refl _) (by simp) ?_; (case hd => rfl); (case hg => rfl); (case hr => first | (go_simp; done) | (go_simp; rfl)); (case hp => exact ((Reps.c3 (show Kd.M k64 _ _ _ (⟨p0, p1, p2⟩ : S64) [.int .i64 p0, .int .i64 p1, .int .u32 (p2)] from (k64_mkM _ _ _ (⟨p0, p1, p2⟩ : S64))) (Reps.none _ _)))); (intro v w1 ho hb hg_ hnew_; clear hg_ hnew_; have HO := Aside0.mk ho; clear ho; obtain ⟨Ao, co, eo⟩ := Kd.R_slice HO.out; subst eo; replace HB := Aside0.mk (HB.out.after hb); clear hb; (try clear q0 q1 q2))) | ((with_reducible refine gate_callee (f := 39) rfl ?_); refine goesL_ (some 159) rfl rfl Tryd.func39 (by kernel_rfl) rfl #[.slice Ao (([(⟨p0, p1, p2⟩ : S64)] : List S64)).length co] rfl (by simp only [List.map_toArray, List.map_cons, List.map_nil]; rfl) ?_; with_reducible refine (code_word.calls k _ _ ([(⟨p0, p1, p2⟩ : S64)] : List S64) r _ (Kd.R_reads' HO.out).2.2 (Kd.R_reads' HO.out).2.1 HF.out).mono ?_; rintro e w1 ⟨rfl, hb⟩; refine ⟨_, rfl, ?_⟩; replace HB := Aside0.mk (HB.out.after hb); clear hb))
      go_ret
      exact ⟨rfl, HB.out.bel⟩
    · -- shape 12
      obtain ⟨⟨p0, p1, p2⟩, hP, hF⟩ := Option.bind_eq_some_iff.mp HF0.out
      have HP := Aside0.mk hP
      have HF : Aside0 (code_word.f k ([(⟨0, 4, cn % 4294967296⟩ : S64), (⟨p0, p1, p2⟩ : S64)] : List S64) = some r) := ⟨hF⟩
      clear hP hF HF0
      go_wp2
      refine start_ (n := 10) (S := FlB w.heap.size b3 b4 b5 #[.int .i64 op, .int .i64 d, .int .i64 n, .int .i64 m, .int .i64 a, .int .i64 im, .int .u64 mk, .int .i64 sh, .int .i64 am, .int .i64 cn] d n m w) (ds := []) #[false, false, false, false, false, false, false, false, false, false] (by kernel_rfl) rfl rfl (HB.out.after (below_drew1 (Below.refl _ _))) (fun hHeld => ?_)
      refine pure_ (i := 0) (N := some 162) (v := ?_) (a' := ?_) #[true, false, false, false, false, false, false, false, false, false] rfl rfl (by kernel_rfl) (fun _ _ _ h => h) (Or.inl ⟨by rfl, ?_⟩) ?_ ?_
      rotate_left
      · intro w'
        go_simp
        with_reducible rfl
      rotate_left
      · simp only [Act.put, List.setIfInBounds_toArray, List.set_cons_zero, List.set_cons_succ, i64_w, i32_w]
        rfl
      refine pure_ (i := 3) (N := some 165) (v := ?_) (a' := ?_) #[true, false, false, true, false, false, false, false, false, false] rfl rfl (by kernel_rfl) (fun _ _ _ h => h) (Or.inl ⟨by rfl, ?_⟩) ?_ ?_
      rotate_left
      · intro w'
        go_simp
        with_reducible rfl
      rotate_left
      · simp only [Act.put, List.setIfInBounds_toArray, List.set_cons_zero, List.set_cons_succ, i64_w, i32_w]
        rfl
      refine take_ (i := 1) (N := some 163) (v := ?_) (a' := ?_) #[true, true, false, true, false, false, false, false, false, false] rfl rfl (by kernel_rfl) (fun _ _ _ h => h) (Or.inl ⟨by rfl, ?_⟩) hHeld ?_ ?_
      rotate_left
      · intro w' s
        have q0 := (blk_cell s.i 9).trans rfl
        go_simp
        with_reducible rfl
      rotate_left
      · simp only [Act.put, List.setIfInBounds_toArray, List.set_cons_zero, List.set_cons_succ, i64_w, i32_w]
        rfl
      refine take_ (i := 4) (N := some 166) (v := ?_) (a' := ?_) #[true, true, false, true, true, false, false, false, false, false] rfl rfl (by kernel_rfl) (fun _ _ _ h => h) (Or.inl ⟨by rfl, ?_⟩) hHeld ?_ ?_
      rotate_left
      · intro w' s
        have q0 := (blk_cell s.i 5).trans rfl
        go_simp
        with_reducible rfl
      rotate_left
      · simp only [Act.put, List.setIfInBounds_toArray, List.set_cons_zero, List.set_cons_succ, i64_w, i32_w]
        rfl
      refine pure_ (i := 5) (N := some 167) (v := ?_) (a' := ?_) #[true, true, false, true, true, true, false, false, false, false] rfl rfl (by kernel_rfl) (fun _ _ _ h => h) (Or.inl ⟨by rfl, ?_⟩) ?_ ?_
      rotate_left
      · intro w'
        go_simp
        with_reducible rfl
      rotate_left
      · simp only [Act.put, List.setIfInBounds_toArray, List.set_cons_zero, List.set_cons_succ, i64_w, i32_w]
        rfl
      refine one_ (i := 2) (N := some 164) #[true, true, true, true, true, true, false, false, false, false] rfl rfl (by kernel_rfl) (by decide) (fun K hK => ?_)
      refine goes_ Tryd.func38 (by kernel_rfl) rfl #[.int .i64 0, .int .i64 4, .int .i64 (cn)] (by rfl) rfl rfl (by simp only [List.map_toArray, List.map_cons, List.map_nil]; rfl) ?_
      with_reducible refine (code_field.calls _ _ _ _ _ _ _ rfl).mono ?_
      rintro e w1 ⟨rfl, hb⟩
      refine ⟨_, rfl, ?_⟩
      refine hK.out _ _ (hHeld.after hb) (fun hHeld => ?_)
      clear hK K hb
      refine norm_ (a' := ?_) ?_ ?_
      rotate_left
      · show Act.put _ (some 164) _ = _
        simp only [Act.put, List.setIfInBounds_toArray, List.set_cons_zero, List.set_cons_succ, i64_w, i32_w]
        rfl
      refine one_ (i := 6) (N := some 168) #[true, true, true, true, true, true, true, false, false, false] rfl rfl (by kernel_rfl) (by decide) (fun K hK => ?_)
      refine goes_ Tryd.func41 (by kernel_rfl) rfl #[.int .i64 5, .int .i64 19, .int .i64 (wrap64 (Int.tdiv im 4))] (by rfl) rfl rfl (by simp only [List.map_toArray, List.map_cons, List.map_nil]; rfl) ?_
      with_reducible refine (code_packed.calls k _ _ _ p0 p1 p2 _ HP.out).mono ?_
      rintro e w1 ⟨rfl, hb⟩
      refine ⟨_, rfl, ?_⟩
      refine hK.out _ _ (hHeld.after hb) (fun hHeld => ?_)
      clear hK K hb
      refine norm_ (a' := ?_) ?_ ?_
      rotate_left
      · show Act.put _ (some 168) _ = _
        simp only [Act.put, List.setIfInBounds_toArray, List.set_cons_zero, List.set_cons_succ, i64_w, i32_w]
        rfl
      refine one_ (i := 7) (N := some 169) #[true, true, true, true, true, true, true, true, false, false] rfl rfl (by kernel_rfl) (by decide) (fun K hK => ?_)
      refine Kd.R_lit_step k64 _ 64 ?hg (N := 169) ?hd (xs := ([(⟨0, 4, cn % 4294967296⟩ : S64), (⟨p0, p1, p2⟩ : S64)] : List S64)) (inner := [.int .i64 0, .int .i64 4, .int .u32 (cn % 4294967296), .int .i64 p0, .int .i64 p1, .int .u32 (p2)]) (ok := fun _ => True) (okp := fun _ => True) ?hr ?hp (fun _ hk => hk) trivial (Below.refl _ _) (Nat.le_refl _) (by simp) ?_; (case hd => rfl); (case hg => rfl); (case hr => first | (go_simp; done) | (go_simp; rfl)); (case hp => exact ((Reps.c3 (show Kd.M k64 _ _ _ (⟨0, 4, cn % 4294967296⟩ : S64) [.int .i64 0, .int .i64 4, .int .u32 (cn % 4294967296)] from (k64_mkM _ _ _ (⟨0, 4, cn % 4294967296⟩ : S64))) (Reps.c3 (show Kd.M k64 _ _ _ (⟨p0, p1, p2⟩ : S64) [.int .i64 p0, .int .i64 p1, .int .u32 (p2)] from (k64_mkM _ _ _ (⟨p0, p1, p2⟩ : S64))) (Reps.none _ _)))))
      intro v w1 ho hb hg_ hnew_
      clear hg_ hnew_
      have HO := Aside0.mk ho
      clear ho
      obtain ⟨Ao, co, eo⟩ := Kd.R_slice HO.out
      subst eo
      refine hK.out _ _ (hHeld.after hb) (fun hHeld => ?_)
      clear hK K hb
      refine norm_ (a' := ?_) ?_ ?_
      rotate_left
      · show Act.put _ (some 169) _ = _
        simp only [Act.put, List.setIfInBounds_toArray, List.set_cons_zero, List.set_cons_succ, i64_w, i32_w]
        rfl
      refine one_ (i := 8) (N := some 170) #[true, true, true, true, true, true, true, true, true, false] rfl rfl (by kernel_rfl) (by decide) (fun K hK => ?_)
      refine goes_ Tryd.func39 (by kernel_rfl) rfl #[.slice Ao (([(⟨0, 4, cn % 4294967296⟩ : S64), (⟨p0, p1, p2⟩ : S64)] : List S64)).length co] (by rfl) rfl rfl (by simp only [List.map_toArray, List.map_cons, List.map_nil]; rfl) ?_
      with_reducible refine (code_word.calls k _ _ ([(⟨0, 4, cn % 4294967296⟩ : S64), (⟨p0, p1, p2⟩ : S64)] : List S64) r _ (Kd.R_reads' HO.out).2.2 (Kd.R_reads' HO.out).2.1 HF.out).mono ?_
      rintro e w1 ⟨rfl, hb⟩
      refine ⟨_, rfl, ?_⟩
      refine hK.out _ _ (hHeld.after hb) (fun hHeld => ?_)
      clear hK K hb
      refine norm_ (a' := ?_) ?_ ?_
      rotate_left
      · show Act.put _ (some 170) _ = _
        simp only [Act.put, List.setIfInBounds_toArray, List.set_cons_zero, List.set_cons_succ, i64_w, i32_w]
        rfl
      refine pure_ (i := 9) (N := some 2) (v := ?_) (a' := ?_) #[true, true, true, true, true, true, true, true, true, true] rfl rfl (by kernel_rfl) (fun _ _ _ h => h) (Or.inl ⟨by rfl, ?_⟩) ?_ ?_
      rotate_left
      · intro w'
        go_simp
        with_reducible rfl
      rotate_left
      · simp only [Act.put, List.setIfInBounds_toArray, List.set_cons_zero, List.set_cons_succ, i64_w, i32_w]
        rfl
      refine done_ (by kernel_rfl) ?_
      go_wp2
      go_ret
      exact ⟨rfl, hHeld.bel⟩
    · -- shape 13
      have HF : Aside0 (code_word.f k ([(⟨5, 5, n % 4294967296⟩ : S64)] : List S64) = some r) := ⟨HF0.out⟩
      clear HF0
      have q0 := (blk_cell HB.out.k4 0).trans rfl
      have q1 := (blk_cell HB.out.k4 1).trans rfl
      have q2 := (blk_cell HB.out.k4 2).trans rfl
      go_wp2_with (first | ((with_reducible refine gate_dst (N := 174) rfl ?_); refine Kd.R_lit k64 _ 64 ?hg (N := 174) ?hd (xs := ([(⟨5, 5, n % 4294967296⟩ : S64)] : List S64)) (inner := [.int .i64 5, .int .i64 5, .int .u32 (n % 4294967296)]) (ok := fun _ => True) (okp := fun _ => True) ?hr ?hp (fun _ hk => hk) trivial (Below.refl _ _) (Nat.le_refl _) (by simp) ?_; (case hd => rfl); (case hg => rfl); (case hr => first | (go_simp; done) | (go_simp; rfl)); (case hp => exact ((Reps.c3 (show Kd.M k64 _ _ _ (⟨5, 5, n % 4294967296⟩ : S64) [.int .i64 5, .int .i64 5, .int .u32 (n % 4294967296)] from (k64_mkM _ _ _ (⟨5, 5, n % 4294967296⟩ : S64))) (Reps.none _ _)))); (intro v w1 ho hb hg_ hnew_; clear hg_ hnew_; have HO := Aside0.mk ho; clear ho; obtain ⟨Ao, co, eo⟩ := Kd.R_slice HO.out; subst eo; replace HB := Aside0.mk (HB.out.after hb); clear hb; (try clear q0 q1 q2))) | ((with_reducible refine gate_callee (f := 39) rfl ?_); refine goesL_ (some 175) rfl rfl Tryd.func39 (by kernel_rfl) rfl #[.slice Ao (([(⟨5, 5, n % 4294967296⟩ : S64)] : List S64)).length co] rfl (by simp only [List.map_toArray, List.map_cons, List.map_nil]; rfl) ?_; with_reducible refine (code_word.calls k _ _ ([(⟨5, 5, n % 4294967296⟩ : S64)] : List S64) r _ (Kd.R_reads' HO.out).2.2 (Kd.R_reads' HO.out).2.1 HF.out).mono ?_; rintro e w1 ⟨rfl, hb⟩; refine ⟨_, rfl, ?_⟩; replace HB := Aside0.mk (HB.out.after hb); clear hb))
      go_ret
      exact ⟨rfl, HB.out.bel⟩
    · -- shape 14
      have HF : Aside0 (code_word.f k ([(⟨5, 16, im % 4294967296⟩ : S64)] : List S64) = some r) := ⟨HF0.out⟩
      clear HF0
      have q5 := (blk_cell HB.out.i 5).trans rfl
      go_wp2_with (fail)
      clear q5
      refine (code_field.calls _ _ _ _ _ _ _ rfl).mono ?_
      rintro e w1 ⟨rfl, hb⟩
      replace HB := Aside0.mk (HB.out.after hb)
      clear hb
      go_wp2_with (first | ((with_reducible refine gate_dst (N := 181) rfl ?_); refine Kd.R_lit k64 _ 64 ?hg (N := 181) ?hd (xs := ([(⟨5, 16, im % 4294967296⟩ : S64)] : List S64)) (inner := [.int .i64 5, .int .i64 16, .int .u32 (im % 4294967296)]) (ok := fun _ => True) (okp := fun _ => True) ?hr ?hp (fun _ hk => hk) trivial (Below.refl _ _) (Nat.le_refl _) (by simp) ?_; (case hd => rfl); (case hg => rfl); (case hr => first | (go_simp; done) | (go_simp; rfl)); (case hp => exact ((Reps.c3 (show Kd.M k64 _ _ _ (⟨5, 16, im % 4294967296⟩ : S64) [.int .i64 5, .int .i64 16, .int .u32 (im % 4294967296)] from (k64_mkM _ _ _ (⟨5, 16, im % 4294967296⟩ : S64))) (Reps.none _ _)))); (intro v w1 ho hb hg_ hnew_; clear hg_ hnew_; have HO := Aside0.mk ho; clear ho; obtain ⟨Ao, co, eo⟩ := Kd.R_slice HO.out; subst eo; replace HB := Aside0.mk (HB.out.after hb); clear hb; (try clear q0 q1 q2))) | ((with_reducible refine gate_callee (f := 39) rfl ?_); refine goesL_ (some 182) rfl rfl Tryd.func39 (by kernel_rfl) rfl #[.slice Ao (([(⟨5, 16, im % 4294967296⟩ : S64)] : List S64)).length co] rfl (by simp only [List.map_toArray, List.map_cons, List.map_nil]; rfl) ?_; with_reducible refine (code_word.calls k _ _ ([(⟨5, 16, im % 4294967296⟩ : S64)] : List S64) r _ (Kd.R_reads' HO.out).2.2 (Kd.R_reads' HO.out).2.1 HF.out).mono ?_; rintro e w1 ⟨rfl, hb⟩; refine ⟨_, rfl, ?_⟩; replace HB := Aside0.mk (HB.out.after hb); clear hb))
      go_ret
      exact ⟨rfl, HB.out.bel⟩
    · -- shape 15
      obtain rfl : r = 0 := (Option.some.inj HF0.out).symm
      go_wp2
      go_ret
      exact ⟨rfl, HB.out.bel⟩
    · -- shape 16
      have HF : Aside0 (code_word.f k ([(⟨0, 5, d % 4294967296⟩ : S64), (⟨5, 5, n % 4294967296⟩ : S64), (⟨12, 4, cn % 4294967296⟩ : S64), (⟨16, 5, m % 4294967296⟩ : S64)] : List S64) = some r) := ⟨HF0.out⟩
      clear HF0
      go_wp2
      refine start_ (n := 9) (S := FlB w.heap.size b3 b4 b5 #[.int .i64 op, .int .i64 d, .int .i64 n, .int .i64 m, .int .i64 a, .int .i64 im, .int .u64 mk, .int .i64 sh, .int .i64 am, .int .i64 cn] d n m w) (ds := []) #[false, false, false, false, false, false, false, false, false] (by kernel_rfl) rfl rfl (HB.out.after (below_drew1 (Below.refl _ _))) (fun hHeld => ?_)
      refine pure_ (i := 2) (N := some 187) (v := ?_) (a' := ?_) #[false, false, true, false, false, false, false, false, false] rfl rfl (by kernel_rfl) (fun _ _ _ h => h) (Or.inl ⟨by rfl, ?_⟩) ?_ ?_
      rotate_left
      · intro w'
        go_simp
        with_reducible rfl
      rotate_left
      · simp only [Act.put, List.setIfInBounds_toArray, List.set_cons_zero, List.set_cons_succ, i64_w, i32_w]
        rfl
      refine take_ (i := 0) (N := some 185) (v := ?_) (a' := ?_) #[true, false, true, false, false, false, false, false, false] rfl rfl (by kernel_rfl) (fun _ _ _ h => h) (Or.inl ⟨by rfl, ?_⟩) hHeld ?_ ?_
      rotate_left
      · intro w' s
        have q0 := (blk_cell s.k3 0).trans rfl
        have q1 := (blk_cell s.k3 1).trans rfl
        have q2 := (blk_cell s.k3 2).trans rfl
        go_simp
        with_reducible rfl
      rotate_left
      · simp only [Act.put, List.setIfInBounds_toArray, List.set_cons_zero, List.set_cons_succ, i64_w, i32_w]
        rfl
      refine take_ (i := 1) (N := some 186) (v := ?_) (a' := ?_) #[true, true, true, false, false, false, false, false, false] rfl rfl (by kernel_rfl) (fun _ _ _ h => h) (Or.inl ⟨by rfl, ?_⟩) hHeld ?_ ?_
      rotate_left
      · intro w' s
        have q0 := (blk_cell s.k4 0).trans rfl
        have q1 := (blk_cell s.k4 1).trans rfl
        have q2 := (blk_cell s.k4 2).trans rfl
        go_simp
        with_reducible rfl
      rotate_left
      · simp only [Act.put, List.setIfInBounds_toArray, List.set_cons_zero, List.set_cons_succ, i64_w, i32_w]
        rfl
      refine take_ (i := 3) (N := some 188) (v := ?_) (a' := ?_) #[true, true, true, true, false, false, false, false, false] rfl rfl (by kernel_rfl) (fun _ _ _ h => h) (Or.inl ⟨by rfl, ?_⟩) hHeld ?_ ?_
      rotate_left
      · intro w' s
        have q0 := (blk_cell s.i 9).trans rfl
        go_simp
        with_reducible rfl
      rotate_left
      · simp only [Act.put, List.setIfInBounds_toArray, List.set_cons_zero, List.set_cons_succ, i64_w, i32_w]
        rfl
      refine take_ (i := 5) (N := some 190) (v := ?_) (a' := ?_) #[true, true, true, true, false, true, false, false, false] rfl rfl (by kernel_rfl) (fun _ _ _ h => h) (Or.inl ⟨by rfl, ?_⟩) hHeld ?_ ?_
      rotate_left
      · intro w' s
        have q0 := (blk_cell s.k5 0).trans rfl
        have q1 := (blk_cell s.k5 1).trans rfl
        have q2 := (blk_cell s.k5 2).trans rfl
        go_simp
        with_reducible rfl
      rotate_left
      · simp only [Act.put, List.setIfInBounds_toArray, List.set_cons_zero, List.set_cons_succ, i64_w, i32_w]
        rfl
      refine one_ (i := 4) (N := some 189) #[true, true, true, true, true, true, false, false, false] rfl rfl (by kernel_rfl) (by decide) (fun K hK => ?_)
      refine goes_ Tryd.func38 (by kernel_rfl) rfl #[.int .i64 12, .int .i64 4, .int .i64 (cn)] (by rfl) rfl rfl (by simp only [List.map_toArray, List.map_cons, List.map_nil]; rfl) ?_
      with_reducible refine (code_field.calls _ _ _ _ _ _ _ rfl).mono ?_
      rintro e w1 ⟨rfl, hb⟩
      refine ⟨_, rfl, ?_⟩
      refine hK.out _ _ (hHeld.after hb) (fun hHeld => ?_)
      clear hK K hb
      refine norm_ (a' := ?_) ?_ ?_
      rotate_left
      · show Act.put _ (some 189) _ = _
        simp only [Act.put, List.setIfInBounds_toArray, List.set_cons_zero, List.set_cons_succ, i64_w, i32_w]
        rfl
      refine one_ (i := 6) (N := some 191) #[true, true, true, true, true, true, true, false, false] rfl rfl (by kernel_rfl) (by decide) (fun K hK => ?_)
      refine Kd.R_lit_step k64 _ 64 ?hg (N := 191) ?hd (xs := ([(⟨0, 5, d % 4294967296⟩ : S64), (⟨5, 5, n % 4294967296⟩ : S64), (⟨12, 4, cn % 4294967296⟩ : S64), (⟨16, 5, m % 4294967296⟩ : S64)] : List S64)) (inner := [.int .i64 0, .int .i64 5, .int .u32 (d % 4294967296), .int .i64 5, .int .i64 5, .int .u32 (n % 4294967296), .int .i64 12, .int .i64 4, .int .u32 (cn % 4294967296), .int .i64 16, .int .i64 5, .int .u32 (m % 4294967296)]) (ok := fun _ => True) (okp := fun _ => True) ?hr ?hp (fun _ hk => hk) trivial (Below.refl _ _) (Nat.le_refl _) (by simp) ?_; (case hd => rfl); (case hg => rfl); (case hr => first | (go_simp; done) | (go_simp; rfl)); (case hp => exact ((Reps.c3 (show Kd.M k64 _ _ _ (⟨0, 5, d % 4294967296⟩ : S64) [.int .i64 0, .int .i64 5, .int .u32 (d % 4294967296)] from (k64_mkM _ _ _ (⟨0, 5, d % 4294967296⟩ : S64))) (Reps.c3 (show Kd.M k64 _ _ _ (⟨5, 5, n % 4294967296⟩ : S64) [.int .i64 5, .int .i64 5, .int .u32 (n % 4294967296)] from (k64_mkM _ _ _ (⟨5, 5, n % 4294967296⟩ : S64))) (Reps.c3 (show Kd.M k64 _ _ _ (⟨12, 4, cn % 4294967296⟩ : S64) [.int .i64 12, .int .i64 4, .int .u32 (cn % 4294967296)] from (k64_mkM _ _ _ (⟨12, 4, cn % 4294967296⟩ : S64))) (Reps.c3 (show Kd.M k64 _ _ _ (⟨16, 5, m % 4294967296⟩ : S64) [.int .i64 16, .int .i64 5, .int .u32 (m % 4294967296)] from (k64_mkM _ _ _ (⟨16, 5, m % 4294967296⟩ : S64))) (Reps.none _ _)))))))
      intro v w1 ho hb hg_ hnew_
      clear hg_ hnew_
      have HO := Aside0.mk ho
      clear ho
      obtain ⟨Ao, co, eo⟩ := Kd.R_slice HO.out
      subst eo
      refine hK.out _ _ (hHeld.after hb) (fun hHeld => ?_)
      clear hK K hb
      refine norm_ (a' := ?_) ?_ ?_
      rotate_left
      · show Act.put _ (some 191) _ = _
        simp only [Act.put, List.setIfInBounds_toArray, List.set_cons_zero, List.set_cons_succ, i64_w, i32_w]
        rfl
      refine one_ (i := 7) (N := some 192) #[true, true, true, true, true, true, true, true, false] rfl rfl (by kernel_rfl) (by decide) (fun K hK => ?_)
      refine goes_ Tryd.func39 (by kernel_rfl) rfl #[.slice Ao (([(⟨0, 5, d % 4294967296⟩ : S64), (⟨5, 5, n % 4294967296⟩ : S64), (⟨12, 4, cn % 4294967296⟩ : S64), (⟨16, 5, m % 4294967296⟩ : S64)] : List S64)).length co] (by rfl) rfl rfl (by simp only [List.map_toArray, List.map_cons, List.map_nil]; rfl) ?_
      with_reducible refine (code_word.calls k _ _ ([(⟨0, 5, d % 4294967296⟩ : S64), (⟨5, 5, n % 4294967296⟩ : S64), (⟨12, 4, cn % 4294967296⟩ : S64), (⟨16, 5, m % 4294967296⟩ : S64)] : List S64) r _ (Kd.R_reads' HO.out).2.2 (Kd.R_reads' HO.out).2.1 HF.out).mono ?_
      rintro e w1 ⟨rfl, hb⟩
      refine ⟨_, rfl, ?_⟩
      refine hK.out _ _ (hHeld.after hb) (fun hHeld => ?_)
      clear hK K hb
      refine norm_ (a' := ?_) ?_ ?_
      rotate_left
      · show Act.put _ (some 192) _ = _
        simp only [Act.put, List.setIfInBounds_toArray, List.set_cons_zero, List.set_cons_succ, i64_w, i32_w]
        rfl
      refine pure_ (i := 8) (N := some 2) (v := ?_) (a' := ?_) #[true, true, true, true, true, true, true, true, true] rfl rfl (by kernel_rfl) (fun _ _ _ h => h) (Or.inl ⟨by rfl, ?_⟩) ?_ ?_
      rotate_left
      · intro w'
        go_simp
        with_reducible rfl
      rotate_left
      · simp only [Act.put, List.setIfInBounds_toArray, List.set_cons_zero, List.set_cons_succ, i64_w, i32_w]
        rfl
      refine done_ (by kernel_rfl) ?_
      go_wp2
      go_ret
      exact ⟨rfl, hHeld.bel⟩

end Go.Proofs.YtemenenkefcebaaDoor.P
