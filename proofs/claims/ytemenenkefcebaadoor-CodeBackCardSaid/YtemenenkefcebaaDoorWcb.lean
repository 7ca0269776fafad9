/- CodeBack, walked by hand over the plain law. -/
import Derived.Test.YtemenenkefcebaaDoorCd3
import Derived.WalkLawsBesides
import Derived.Lib.ItoaWalk
import Derived.Test.YtemenenkefcebaaDoorPx7
import Derived.Test.YtemenenkefcebaaDoorPx9
namespace Go.Proofs.YtemenenkefcebaaDoor.P
open Go.RowKit Go.Proofs.YtemenenkefcebaaDoorW.PrintWords Go.Proofs.YtemenenkefcebaaDoorW.PrintLast Go.Proofs.YtemenenkefcebaaDoorW.PrintMore
set_option linter.unusedVariables false
set_option linter.unusedSimpArgs false
set_option maxHeartbeats 8000000 in
set_option maxRecDepth 100000 in
theorem back_walk (op d n m a im mk sh am cn : Int) (w : World) (c0 : (Lit.int .i64 op).wf = true) (c1 : (Lit.int .i64 d).wf = true) (c2 : (Lit.int .i64 n).wf = true) (c3 : (Lit.int .i64 m).wf = true) (c4 : (Lit.int .i64 a).wf = true) (c5 : (Lit.int .i64 im).wf = true) (c6 : (Lit.int .u64 mk).wf = true) (c7 : (Lit.int .i64 sh).wf = true) (c8 : (Lit.int .i64 am).wf = true) (c9 : (Lit.int .i64 cn).wf = true) (HT : Aside0 (Tabs w)) :
  Calls Tryd.prog 3 #[.agg #[.int .i64 op, .int .i64 d, .int .i64 n, .int .i64 m, .int .i64 a, .int .i64 im, .int .u64 mk, .int .i64 sh, .int .i64 am, .int .i64 cn]] w fun e w' => e = .returned (.bool true) ∧ Below w.heap.size w w' := by
 obtain ⟨k, b, hIs, hno, hyes⟩ := Cd.back_plain op d n m a im mk sh am cn (Go.Proofs.YtemenenkefcebaaDoor.K.wf_u64 c6)
 have HI := Aside0.mk hIs
 have hu := Tryd.underlying24
 have hz := Tryd.zeroValue24
 clear hIs c0 c1 c2 c3 c4 c5 c6 c7 c8 c9
 have HB := Aside0.mk (below_alloc (Below.refl w.heap.size w) (.cells #[.int .i64 op, .int .i64 d, .int .i64 n, .int .i64 m, .int .i64 a, .int .i64 im, .int .u64 mk, .int .i64 sh, .int .i64 am, .int .i64 cn] 24))
 have K0 := Aside0.mk (blk_new w (.cells #[.int .i64 op, .int .i64 d, .int .i64 n, .int .i64 m, .int .i64 a, .int .i64 im, .int .u64 mk, .int .i64 sh, .int .i64 am, .int .i64 cn] 24))
 cases b with
 | false =>
  have HE := Aside0.mk (hno rfl)
  clear hno hyes
  go_enter Tryd.func3, Tryd.ntmps3
  go_wp2_with (fail)
  refine (code_Encode.calls k op d n m a im mk sh am cn 0 1 _ HE.out (tabs_of HT HB.out)).mono ?_
  rintro e V1 ⟨rfl, hb⟩
  replace K0 := Aside0.mk (blk_below K0.out hb)
  replace HB := Aside0.mk (HB.out.trans (hb.mono HB.out.size))
  clear hb
  obtain ⟨q0, q1, q2, q3, q4, q5, q6, q7, q8, q9⟩ := cells10 K0.out
  go_wp2_with (fail)
  clear q0 q1 q2 q3 q4 q5 q6 q7 q8 q9
  refine (inst_Is.calls k op d n m a im mk sh am cn false _ HI.out (tabs_of HT HB.out)).mono ?_
  rintro e V2 ⟨rfl, hb⟩
  replace HB := Aside0.mk (HB.out.trans (hb.mono HB.out.size))
  clear hb
  go_wp2_with (fail)
  refine (cleatlaw05_coded.calls 40 true _ rfl (tabs_of HT HB.out)).mono ?_
  rintro e V3 ⟨rfl, hb⟩
  replace HB := Aside0.mk (HB.out.trans (hb.mono HB.out.size))
  clear hb
  go_wp2
  go_ret
  exact ⟨rfl, HB.out⟩
 | true =>
  obtain ⟨wd, hE, hD, hO⟩ := hyes rfl
  have HE := Aside0.mk hE
  have HD := Aside0.mk hD
  have HO := Aside0.mk hO
  clear hno hyes hE hD hO
  go_enter Tryd.func3, Tryd.ntmps3
  go_wp2_with (fail)
  refine (code_Encode.calls k op d n m a im mk sh am cn wd 0 _ HE.out (tabs_of HT HB.out)).mono ?_
  rintro e V1 ⟨rfl, hb⟩
  replace K0 := Aside0.mk (blk_below K0.out hb)
  replace HB := Aside0.mk (HB.out.trans (hb.mono HB.out.size))
  clear hb
  obtain ⟨q0, q1, q2, q3, q4, q5, q6, q7, q8, q9⟩ := cells10 K0.out
  go_wp2_with (fail)
  clear q0 q1 q2 q3 q4 q5 q6 q7 q8 q9
  refine (inst_Is.calls k op d n m a im mk sh am cn true _ HI.out (tabs_of HT HB.out)).mono ?_
  rintro e V2 ⟨rfl, hb⟩
  replace K0 := Aside0.mk (blk_below K0.out hb)
  replace HB := Aside0.mk (HB.out.trans (hb.mono HB.out.size))
  clear hb
  go_wp2_with (fail)
  refine (code_Decode.calls k wd op d n m a im mk sh am cn 0 _ HD.out (tabs_of HT HB.out)).mono ?_
  rintro e V3 ⟨rfl, hb⟩
  replace K0 := Aside0.mk (blk_below K0.out hb)
  replace HB := Aside0.mk (HB.out.trans (hb.mono HB.out.size))
  clear hb
  go_wp2_with (first | ((with_reducible refine gate_dst (N := 5) rfl ?_); refine box_event ?hg (N := 5) ?hd (cs := zero10) (t := 24) ?hr ?_; (case hd => rfl); (case hg => rfl); (case hr => first | (go_simp; done) | (go_simp; rfl)); intro gb hg w6 hbox hb; obtain ⟨c0, c1, c2, c3, c4, c5, c6, c7, c8, c9⟩ := cells10 hbox; have z0 := blk_frozen hbox 0; have z1 := blk_frozen hbox 1; have z2 := blk_frozen hbox 2; have z3 := blk_frozen hbox 3; have z4 := blk_frozen hbox 4; have z5 := blk_frozen hbox 5; have z6 := blk_frozen hbox 6; have z7 := blk_frozen hbox 7; have z8 := blk_frozen hbox 8; have z9 := blk_frozen hbox 9; have HBX := Aside0.mk hbox; have HGB : Aside0 (w.heap.size ≤ gb ∧ w.heap.size ≠ gb) := ⟨⟨by rw [hg]; exact HB.out.size, by rw [hg]; exact Nat.ne_of_lt (blk_lt K0.out)⟩⟩; replace K0 := Aside0.mk (blk_below K0.out hb); replace HB := Aside0.mk (HB.out.trans (hb.mono HB.out.size)); clear hbox hb hg))
  clear c0 c1 c2 c3 c4 c5 c6 c7 c8 c9 z0 z1 z2 z3 z4 z5 z6 z7 z8 z9
  refine start_ (n := 22) (S := fun w' => w'.heap[w.heap.size]? = some (.cells #[.int .i64 op, .int .i64 d, .int .i64 n, .int .i64 m, .int .i64 a, .int .i64 im, .int .u64 mk, .int .i64 sh, .int .i64 am, .int .i64 cn] 24) ∧ w'.heap[gb]? = some (.cells #[.int .i64 op, .int .i64 d, .int .i64 n, .int .i64 m, .int .i64 a, .int .i64 im, .int .u64 mk, .int .i64 sh, .int .i64 am, .int .i64 cn] 24) ∧ Below w.heap.size w w') (ds := []) #[false, false, false, false, false, false, false, false, false, false, false, false, false, false, false, false, false, false, false, false, false, false] (by kernel_rfl) rfl rfl ⟨blk_drew (far10 K0.out HGB.out.2), blk_drew (stored10 HBX.out), below_drew1 (below10 HB.out HGB.out.1)⟩ (fun hHeld => ?_)
  refine one_ (i := 0) (N := some 29) #[true, false, false, false, false, false, false, false, false, false, false, false, false, false, false, false, false, false, false, false, false, false] rfl rfl (by kernel_rfl) (by decide) (fun K hK => ?_)
  refine goes_ Tryd.func10 (by kernel_rfl) rfl #[] (by rfl) rfl rfl (by simp only [List.map_toArray, List.map_cons, List.map_nil] <;> rfl) ?_
  with_reducible refine (cleatlaw05_coded.calls 40 true _ rfl (tabs_of HT hHeld.2.2)).mono ?_
  rintro e w9 ⟨rfl, hb⟩
  refine ⟨_, rfl, ?_⟩
  refine hK.out _ _ ⟨blk_below hHeld.1 hb, blk_below hHeld.2.1 hb, hHeld.2.2.trans (hb.mono hHeld.2.2.size)⟩ (fun hHeld => ?_)
  clear hK K hb
  refine norm_ (a' := ?_) ?_ ?_
  rotate_left
  ·show Act.put _ (some 29) _ = _
   simp only [Act.put, List.setIfInBounds_toArray, List.set_cons_zero, List.set_cons_succ, i64_w, i32_w]
   rfl
  refine pure_ (i := 1) (N := some 30) (v := ?_) (a' := ?_) #[true, true, false, false, false, false, false, false, false, false, false, false, false, false, false, false, false, false, false, false, false, false] rfl rfl (by kernel_rfl) (fun _ _ _ h => h) (Or.inl ⟨by rfl, ?_⟩) ?_ ?_
  rotate_left
  ·intro w'
   go_simp
   with_reducible rfl
  rotate_left
  ·simp only [Act.put, List.setIfInBounds_toArray, List.set_cons_zero, List.set_cons_succ, i64_w, i32_w]
   rfl
  refine pure_ (i := 2) (N := some 31) (v := ?_) (a' := ?_) #[true, true, true, false, false, false, false, false, false, false, false, false, false, false, false, false, false, false, false, false, false, false] rfl rfl (by kernel_rfl) (fun _ _ _ h => h) (Or.inl ⟨by rfl, ?_⟩) ?_ ?_
  rotate_left
  ·intro w'
   go_simp
   with_reducible rfl
  rotate_left
  ·simp only [Act.put, List.setIfInBounds_toArray, List.set_cons_zero, List.set_cons_succ, i64_w, i32_w]
   rfl
  refine pure_ (i := 3) (N := some 32) (v := ?_) (a' := ?_) #[true, true, true, true, false, false, false, false, false, false, false, false, false, false, false, false, false, false, false, false, false, false] rfl rfl (by kernel_rfl) (fun _ _ _ h => h) (Or.inl ⟨by rfl, ?_⟩) ?_ ?_
  rotate_left
  ·intro w'
   go_simp
   with_reducible rfl
  rotate_left
  ·simp only [Act.put, List.setIfInBounds_toArray, List.set_cons_zero, List.set_cons_succ, i64_w, i32_w]
   rfl
  refine pure_ (i := 4) (N := some 33) (v := ?_) (a' := ?_) #[true, true, true, true, true, false, false, false, false, false, false, false, false, false, false, false, false, false, false, false, false, false] rfl rfl (by kernel_rfl) (fun _ _ _ h => h) (Or.inl ⟨by rfl, ?_⟩) ?_ ?_
  rotate_left
  ·intro w'
   go_simp
   with_reducible rfl
  rotate_left
  ·simp only [Act.put, List.setIfInBounds_toArray, List.set_cons_zero, List.set_cons_succ, i64_w, i32_w]
   rfl
  refine pure_ (i := 5) (N := some 34) (v := ?_) (a' := ?_) #[true, true, true, true, true, true, false, false, false, false, false, false, false, false, false, false, false, false, false, false, false, false] rfl rfl (by kernel_rfl) (fun _ _ _ h => h) (Or.inl ⟨by rfl, ?_⟩) ?_ ?_
  rotate_left
  ·intro w'
   go_simp
   with_reducible rfl
  rotate_left
  ·simp only [Act.put, List.setIfInBounds_toArray, List.set_cons_zero, List.set_cons_succ, i64_w, i32_w]
   rfl
  refine pure_ (i := 6) (N := some 35) (v := ?_) (a' := ?_) #[true, true, true, true, true, true, true, false, false, false, false, false, false, false, false, false, false, false, false, false, false, false] rfl rfl (by kernel_rfl) (fun _ _ _ h => h) (Or.inl ⟨by rfl, ?_⟩) ?_ ?_
  rotate_left
  ·intro w'
   go_simp
   with_reducible rfl
  rotate_left
  ·simp only [Act.put, List.setIfInBounds_toArray, List.set_cons_zero, List.set_cons_succ, i64_w, i32_w]
   rfl
  refine pure_ (i := 7) (N := some 36) (v := ?_) (a' := ?_) #[true, true, true, true, true, true, true, true, false, false, false, false, false, false, false, false, false, false, false, false, false, false] rfl rfl (by kernel_rfl) (fun _ _ _ h => h) (Or.inl ⟨by rfl, ?_⟩) ?_ ?_
  rotate_left
  ·intro w'
   go_simp
   with_reducible rfl
  rotate_left
  ·simp only [Act.put, List.setIfInBounds_toArray, List.set_cons_zero, List.set_cons_succ, i64_w, i32_w]
   rfl
  refine pure_ (i := 8) (N := some 37) (v := ?_) (a' := ?_) #[true, true, true, true, true, true, true, true, true, false, false, false, false, false, false, false, false, false, false, false, false, false] rfl rfl (by kernel_rfl) (fun _ _ _ h => h) (Or.inl ⟨by rfl, ?_⟩) ?_ ?_
  rotate_left
  ·intro w'
   go_simp
   with_reducible rfl
  rotate_left
  ·simp only [Act.put, List.setIfInBounds_toArray, List.set_cons_zero, List.set_cons_succ, i64_w, i32_w]
   rfl
  refine pure_ (i := 9) (N := some 38) (v := ?_) (a' := ?_) #[true, true, true, true, true, true, true, true, true, true, false, false, false, false, false, false, false, false, false, false, false, false] rfl rfl (by kernel_rfl) (fun _ _ _ h => h) (Or.inl ⟨by rfl, ?_⟩) ?_ ?_
  rotate_left
  ·intro w'
   go_simp
   with_reducible rfl
  rotate_left
  ·simp only [Act.put, List.setIfInBounds_toArray, List.set_cons_zero, List.set_cons_succ, i64_w, i32_w]
   rfl
  refine take_ (i := 10) (N := some 39) (v := ?_) (a' := ?_) #[true, true, true, true, true, true, true, true, true, true, true, false, false, false, false, false, false, false, false, false, false, false] rfl rfl (by kernel_rfl) (fun _ _ _ h => h) (Or.inl ⟨by rfl, ?_⟩) hHeld ?_ ?_
  rotate_left
  ·intro w' s
   obtain ⟨k0, k1, k2, k3, k4, k5, k6, k7, k8, k9⟩ := cells10 s.2.1
   go_simp
   with_reducible rfl
  rotate_left
  ·simp only [Act.put, List.setIfInBounds_toArray, List.set_cons_zero, List.set_cons_succ, i64_w, i32_w]
   rfl
  refine take_ (i := 11) (N := some 40) (v := ?_) (a' := ?_) #[true, true, true, true, true, true, true, true, true, true, true, true, false, false, false, false, false, false, false, false, false, false] rfl rfl (by kernel_rfl) (fun _ _ _ h => h) (Or.inl ⟨by rfl, ?_⟩) hHeld ?_ ?_
  rotate_left
  ·intro w' s
   obtain ⟨k0, k1, k2, k3, k4, k5, k6, k7, k8, k9⟩ := cells10 s.1
   go_simp
   with_reducible rfl
  rotate_left
  ·simp only [Act.put, List.setIfInBounds_toArray, List.set_cons_zero, List.set_cons_succ, i64_w, i32_w]
   rfl
  refine pure_ (i := 12) (N := some 41) (v := ?_) (a' := ?_) #[true, true, true, true, true, true, true, true, true, true, true, true, true, false, false, false, false, false, false, false, false, false] rfl rfl (by kernel_rfl) (fun _ _ _ h => h) (Or.inl ⟨by rfl, ?_⟩) ?_ ?_
  rotate_left
  ·intro w'
   go_simp
   with_reducible rfl
  rotate_left
  ·simp only [Act.put, List.setIfInBounds_toArray, List.set_cons_zero, List.set_cons_succ, i64_w, i32_w]
   rfl
  refine pure_ (i := 13) (N := some 42) (v := ?_) (a' := ?_) #[true, true, true, true, true, true, true, true, true, true, true, true, true, true, false, false, false, false, false, false, false, false] rfl rfl (by kernel_rfl) (fun _ _ _ h => h) (Or.inl ⟨by rfl, ?_⟩) ?_ ?_
  rotate_left
  ·intro w'
   go_simp
   with_reducible rfl
  rotate_left
  ·simp only [Act.put, List.setIfInBounds_toArray, List.set_cons_zero, List.set_cons_succ, i64_w, i32_w]
   rfl
  refine pure_ (i := 14) (N := some 43) (v := ?_) (a' := ?_) #[true, true, true, true, true, true, true, true, true, true, true, true, true, true, true, false, false, false, false, false, false, false] rfl rfl (by kernel_rfl) (fun _ _ _ h => h) (Or.inl ⟨by rfl, ?_⟩) ?_ ?_
  rotate_left
  ·intro w'
   go_simp
   with_reducible rfl
  rotate_left
  ·simp only [Act.put, List.setIfInBounds_toArray, List.set_cons_zero, List.set_cons_succ, i64_w, i32_w]
   rfl
  refine pure_ (i := 15) (N := some 44) (v := ?_) (a' := ?_) #[true, true, true, true, true, true, true, true, true, true, true, true, true, true, true, true, false, false, false, false, false, false] rfl rfl (by kernel_rfl) (fun _ _ _ h => h) (Or.inl ⟨by rfl, ?_⟩) ?_ ?_
  rotate_left
  ·intro w'
   go_simp
   with_reducible rfl
  rotate_left
  ·simp only [Act.put, List.setIfInBounds_toArray, List.set_cons_zero, List.set_cons_succ, i64_w, i32_w]
   rfl
  refine pure_ (i := 17) (N := some 46) (v := ?_) (a' := ?_) #[true, true, true, true, true, true, true, true, true, true, true, true, true, true, true, true, false, true, false, false, false, false] rfl rfl (by kernel_rfl) (fun _ _ _ h => h) (Or.inl ⟨by rfl, ?_⟩) ?_ ?_
  rotate_left
  ·intro w'
   go_simp
   with_reducible rfl
  rotate_left
  ·simp only [Act.put, List.setIfInBounds_toArray, List.set_cons_zero, List.set_cons_succ, i64_w, i32_w]
   rfl
  refine take_ (i := 18) (N := some 47) (v := ?_) (a' := ?_) #[true, true, true, true, true, true, true, true, true, true, true, true, true, true, true, true, false, true, true, false, false, false] rfl rfl (by kernel_rfl) (fun _ _ _ h => h) (Or.inl ⟨by rfl, ?_⟩) hHeld ?_ ?_
  rotate_left
  ·intro w' s
   have q0 := (blk_cell s.1 0).trans rfl
   go_simp
   with_reducible rfl
  rotate_left
  ·simp only [Act.put, List.setIfInBounds_toArray, List.set_cons_zero, List.set_cons_succ, i64_w, i32_w]
   rfl
  refine one_ (i := 16) (N := some 45) #[true, true, true, true, true, true, true, true, true, true, true, true, true, true, true, true, true, true, true, false, false, false] rfl rfl (by kernel_rfl) (by decide) (fun K hK => ?_)
  refine goes_ Tryd.func12 (by kernel_rfl) rfl #[.int .u32 wd] (by rfl) rfl rfl (by simp only [List.map_toArray, List.map_cons, List.map_nil] <;> rfl) ?_
  with_reducible refine (code_Opcode.calls wd op _ HO.out (tabs_of HT hHeld.2.2)).mono ?_
  rintro e w9 ⟨rfl, hd⟩
  have hb := hd.below
  refine ⟨_, rfl, ?_⟩
  refine hK.out _ _ ⟨blk_below hHeld.1 hb, blk_below hHeld.2.1 hb, hHeld.2.2.trans (hb.mono hHeld.2.2.size)⟩ (fun hHeld => ?_)
  clear hK K hb hd
  refine norm_ (a' := ?_) ?_ ?_
  rotate_left
  ·show Act.put _ (some 45) _ = _
   simp only [Act.put, List.setIfInBounds_toArray, List.set_cons_zero, List.set_cons_succ, i64_w, i32_w]
   rfl
  refine pure_ (i := 19) (N := some 48) (v := ?_) (a' := ?_) #[true, true, true, true, true, true, true, true, true, true, true, true, true, true, true, true, true, true, true, true, false, false] rfl rfl (by kernel_rfl) (fun _ _ _ h => h) (Or.inl ⟨by rfl, ?_⟩) ?_ ?_
  rotate_left
  ·intro w'
   go_simp
   with_reducible rfl
  rotate_left
  ·simp only [Act.put, List.setIfInBounds_toArray, List.set_cons_zero, List.set_cons_succ, i64_w, i32_w]
   rfl
  refine pure_ (i := 20) (N := some 49) (v := ?_) (a' := ?_) #[true, true, true, true, true, true, true, true, true, true, true, true, true, true, true, true, true, true, true, true, true, false] rfl rfl (by kernel_rfl) (fun _ _ _ h => h) (Or.inl ⟨by rfl, ?_⟩) ?_ ?_
  rotate_left
  ·intro w'
   go_simp
   with_reducible rfl
  rotate_left
  ·simp only [Act.put, List.setIfInBounds_toArray, List.set_cons_zero, List.set_cons_succ, i64_w, i32_w]
   rfl
  refine pure_ (i := 21) (N := some 2) (v := ?_) (a' := ?_) #[true, true, true, true, true, true, true, true, true, true, true, true, true, true, true, true, true, true, true, true, true, true] rfl rfl (by kernel_rfl) (fun _ _ _ h => h) (Or.inl ⟨by rfl, ?_⟩) ?_ ?_
  rotate_left
  ·intro w'
   go_simp
   with_reducible rfl
  rotate_left
  ·simp only [Act.put, List.setIfInBounds_toArray, List.set_cons_zero, List.set_cons_succ, i64_w, i32_w]
   rfl
  refine done_ (by kernel_rfl) ?_
  go_wp2
  go_ret
  exact ⟨rfl, hHeld.2.2⟩
end Go.Proofs.YtemenenkefcebaaDoor.P
