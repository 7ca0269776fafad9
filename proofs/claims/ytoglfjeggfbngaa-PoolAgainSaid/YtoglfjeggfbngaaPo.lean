/- store.put where the literal is new. -/
import Derived.Test.YtoglfjeggfbngaaPn
import Derived.Deep.RegionHeld3
import Derived.WalkSpells
import Derived.Deep.RegionLaw
namespace Go.Proofs.Ytoglfjeggfbngaa.P
open Go.RowKit Go.Maps Go.ChangeShapes Go.WideShapes Go.Proofs.YtoglfjeggfbngaaW.PrintWords Go.Proofs.YtoglfjeggfbngaaW.PrintLast Go.Proofs.YtoglfjeggfbngaaW.PrintMore
set_option linter.unusedVariables false
set_option linter.unusedSimpArgs false
theorem grown_set (w : World) (b i : Nat) (v : Value) : w.grownBy (w.setCell ⟨b, i, none⟩ v) (some b) := by
  have h : Below w.heap.size w w := Below.refl _ _
  refine ⟨rfl, rfl, rfl, by simp, fun j hj hne => Below.heap_setCell w ⟨b, i, none⟩ v j (fun e => hne (by rw [e]))⟩
theorem grown_drewN (w : World) (n : Nat) (row : Option Nat) : w.grownBy (w.drewN n) row := ⟨rfl, rfl, rfl, Nat.le_refl _, fun _ _ _ => rfl⟩
theorem R_notmap {d : Kd Lt} {e base : Nat} {ok : Nat → Prop} {w : World} {v : Value} {xs : List Lt} (h : d.R e w base ok v xs) {bm : Nat} {es : Array MapEntry} {ck : Nat} (hb : w.heap[bm]? = some (.map es ck)) : d.R e w base (fun k => ok k ∧ k ≠ bm) v xs :=
  Kd.R_mono (Kd.R_bound h) (fun k hk => ⟨hk.1, by
    obtain ⟨_, _, _, q, hq, cells', hc⟩ := hk
    rintro rfl
    rw [hc] at hb
    cases hb⟩)
theorem own_obj {w : World} {bm n : Nat} {D : DataW Unit} (h : w.ownsMap Try.prog 34 (plainElem Try.prog 3) bm n D) : ∃ es ck, w.heap[bm]? = some (.map es ck) := by
  obtain ⟨es, ck, hb, _⟩ := h
  exact ⟨es, ck, hb⟩
/-- Behind the map's store and the append: the pool's new state. -/
theorem pool_put_end (B b bm : Nat) (l : List Lt) (x : Lt) (A : Option Addr) (c : Nat) (D : DataW Unit) (w3 : World) (v1 : Value) (hB : B ≤ b) (hbm : B ≤ bm)
    (hok : ∀ y ∈ l, ltOk y) (hk : ltOk x) (hx : x ∉ l)
    (hb3 : w3.heap[b]? = some (.cells #[.slice A l.length c, .map (some bm)] 51 (0, 0)))
    (hR3 : ltKd.R 34 w3 B (fun k => k ≠ b) v1 (l ++ [x]))
    (hown3 : w3.ownsMap Try.prog 34 (plainElem Try.prog 3) bm (l.length + 1) (D.put (ltK x) (.lit (.int .i64 ((l.length : Nat) : Int)))))
    (hMr : Mr D l) : PoolAt B b (l ++ [x]) (w3.setCell ⟨b, 0, none⟩ v1) := by
  obtain ⟨es, ck, hob⟩ := own_obj hown3
  have hne : bm ≠ b := by rintro rfl; rw [hb3] at hob; cases hob
  refine ⟨hB, fun y hy => ?_, v1, some bm, blk_put hb3 0 _ rfl, Kd.R_far hR3 (fun k hk => hk) _, Or.inr ⟨bm, _, rfl, hbm, ?_, mr_put hMr hk hx⟩⟩
  · rcases List.mem_append.1 hy with hy | hy
    · exact hok y hy
    · rw [List.mem_singleton.1 hy]; exact hk
  · rw [List.length_append, List.length_singleton]
    exact hown3.setCell hne _
set_option maxHeartbeats 4000000 in
theorem store_put_new1 (B b : Nat) (l : List Lt) (x : Lt) (most : Int) (w : World) (hBw : B ≤ w.heap.size) (h : PoolAt B b l w) (hl : ¬ ∃ v, w.heap[b]? = some (.cells #[v, .map none] 51 (0, 0))) (hx : x ∉ l) (hk : ltOk x) (hm : l.length < most) (hmm : most ≤ 1000) :
    Calls Try.prog 15 #[.pointer (some ⟨b, 0, none⟩), ltV x, .int .i64 most] w fun e w' => e = .returned (.tuple #[.int .i64 l.length, .bool true]) ∧ PoolAt B b (l ++ [x]) w' ∧ Below B w w' ∧ Kept b w w' := by
  obtain ⟨hB, hok, v, mp, hb, hR, hM⟩ := h
  obtain ⟨A, c, rfl⟩ := Kd.R_slice hR
  obtain ⟨i, hL⟩ := look_no B mp l x _ ((PMap_alloc hM (.cells #[.string x.f0, .int .i64 x.f1, .int .u64 x.f2] 34))) hx hk
  rcases hM with ⟨rfl, rfl⟩ | ⟨bm, D, rfl, hbm, hown, hMr⟩
  · exact absurd ⟨_, hb⟩ hl
  clear hl
  have hc := blk_cell hb 0
  have hc1 := blk_cell hb 1
  simp at hc hc1
  have hbl := blk_lt hb
  have hf0 := blk_frozen hb 0
  have hOK := Aside0.mk hok
  have hRR := Aside0.mk hR
  have hX := Aside0.mk hx
  have hMM := Aside0.mk hMr
  have HB := Aside0.mk hb
  clear hok hR hx hMr hb
  have q47 : ∀ (w : World) (r : Option Nat), (binOp .eql 47 (.map r) (.map none)).run Try.prog w = .ok (.bool r.isNone) w := fun w r => run_eql_map_nil w _ _ _ r Try.underlying47
  unfold ltV
  go_enter Try.func15, Try.ntmps15
  go_wp2
  go_quiet (fail)
  go_wp2
  have hlm : (l.length : Int) < 1000 := by omega
  have hkey := lt_key hk
  obtain ⟨w2, hrunU, hown2, hturn⟩ := World.ownsMap.store (w := (w.alloc (.cells #[.string x.f0, .int .i64 x.f1, .int .u64 x.f2] 34)).drewN (nq + 1)) (hown.alloc (.cells #[.string x.f0, .int .i64 x.f1, .int .u64 x.f2] 34)) litKeyed Try.underlying47 (by unfold maxLen; omega) hkey (plainElem_int (H := Unit) Try.underlying3 (a := (l.length : Int)) (WalkArith.wf_i64 (by omega)))
  unfold ltV at hrunU
  obtain ⟨es0, ck0, hob⟩ := own_obj hown
  have hne : b ≠ bm := by rintro rfl; rw [HB.out] at hob; cases hob
  have hbmlt := hown.lt
  have hg2 : (w.alloc (.cells #[.string x.f0, .int .i64 x.f1, .int .u64 x.f2] 34)).grownBy w2 (some bm) := by have g := hturn.grown; exact ⟨g.os, g.tape, g.output, g.size, g.block⟩
  have hsz2 : w.heap.size + 1 ≤ w2.heap.size := by have := hg2.size; simpa using this
  have hb2 : w2.heap[b]? = some (.cells #[.slice A l.length c, .map (some bm)] 51 (0, 0)) := blk_grown (blk_alloc HB.out _) hg2 (by simpa using hne)
  have hbx : w2.heap[w.heap.size]? = some (.cells #[.string x.f0, .int .i64 x.f1, .int .u64 x.f2] 34 (0, 0)) := blk_grown (blk_new w _) hg2 (by simp; omega)
  have d0 := blk_cell hb2 0
  have d1 := blk_cell hb2 1
  have e0 := blk_cell hbx 0
  have e1 := blk_cell hbx 1
  have e2 := blk_cell hbx 2
  have df := blk_frozen hb2 0
  simp at d0 d1 e0 e1 e2 df
  have HR2 : Aside0 (ltKd.R 34 w2 B (fun k => k ≠ b) (.slice A l.length c) l) := ⟨Kd.R_mono (Kd.R_grown (Kd.R_alloc (R_notmap hRR.out hob) _) hg2 (fun k hk => by simpa using hk.2)) (fun k hk => hk.1)⟩
  have HBB : Aside0 (Below B w w2) := ⟨((Below.refl _ _).alloc hBw _).grown hg2 (by simp; omega) (fun k hk => by cases hk; exact hbm)⟩
  have HK2 : Aside0 (Kept b w w2) := ⟨(Kept.below (below_alloc (Below.refl _ w) (.cells #[.string x.f0, .int .i64 x.f1, .int .u64 x.f2] 34))).trans (Kept.grown hg2 (fun k cs t f e hc => by
    cases e
    rw [Below.heap_alloc _ _ _ hbmlt, hob] at hc
    cases hc))⟩
  have HO2 := Aside0.mk hown2
  have HG2 := Aside0.mk hg2
  have HB2 := Aside0.mk hb2
  have hBw2 : B ≤ w2.heap.size := by omega
  have hbw2 : b < w2.heap.size := blk_lt hb2
  have hbne : b ≠ w2.heap.size := by omega
  have hvm := Kd.R_away (g := bm) (R_notmap hRR.out hob) (fun _ hk => hk.2)
  have hnv := Kd.R_away HR2.out (fun _ hk => hk)
  clear hturn hob hown hown2 hg2 hb2 hbx hL
  go_region
  clear hc hc1 hrunU
  go_wp2
  go_region_law ((refine Kd.R_append_step ltKd (w0 := w) B (by rfl) _ _ 37 34 (.agg #[.string ByteArray.empty, .int .i64 0, .int .u64 0]) 32 (by rfl) Try.underlying37 (by kernel_rfl) rfl (by decide) (by omega) (.slice A l.length c) l x [.string x.f0, .int .i64 x.f1, .int .u64 x.f2] (fun k => k ≠ b) (fun _ => False) (by rfl) (by rfl) ⟨_, _, rfl, rfl, ⟨_, _, rfl, rfl, rfl⟩⟩ (fun _ hk => hk.elim) (fun k hk => by have : w2.heap.size ≤ k := hk; omega) (Kd.R_drewN HR2.out _) (pw_below_drewN HBB.out _) hBw2 (by omega) ?_; intro v1 w3 hR3 hB3 hg3 hat3; obtain ⟨A1, c1, rfl⟩ := Kd.R_slice hR3; have hb3 := blk_grown (blk_drewN HB2.out _) hg3 hnv; have f0 := blk_cell hb3 0; have ff := blk_frozen hb3 0; simp at f0 ff))
  all_goals go_wp2
  all_goals
    go_ret2
    rw [List.length_append, List.length_singleton] at hR3
    refine ⟨rfl, pool_put_end B b bm l x A c D _ _ hB hbm hOK.out hk hX.out hb3 hR3 ?_ hMM.out, Below.setCell (p := ⟨b, 0, none⟩) hB3 hB _, (HK2.out.trans (Kept.grown (w := w2.drewN _) hg3 (fun k cs t f e hc => by
      obtain ⟨cells, hc'⟩ := Kd.R_typed (Kd.R_drewN HR2.out _) k e
      rw [hc'] at hc
      cases hc
      rfl))).trans (Kept.set _)⟩
    exact (World.ownsMap.kept (w := w2.drewN _) HO2.out hg3 hvm)
set_option maxHeartbeats 4000000 in
theorem store_put_new0 (B b : Nat) (x : Lt) (most : Int) (w : World) (hBw : B ≤ w.heap.size) (h : PoolAt B b [] w) (hmp : ∃ v, w.heap[b]? = some (.cells #[v, .map none] 51 (0, 0))) (hk : ltOk x) (hm : 0 < most) (hmm : most ≤ 1000) :
    Calls Try.prog 15 #[.pointer (some ⟨b, 0, none⟩), ltV x, .int .i64 most] w fun e w' => e = .returned (.tuple #[.int .i64 0, .bool true]) ∧ PoolAt B b [x] w' ∧ Below B w w' ∧ Kept b w w' := by
  obtain ⟨hB, hok, v, mp, hb, hR, hM⟩ := h
  obtain ⟨A, c, rfl⟩ := Kd.R_slice hR
  obtain rfl : mp = none := by
    obtain ⟨v', h'⟩ := hmp
    rw [hb] at h'
    simp at h'
    exact h'.2
  clear hmp
  obtain ⟨i, hL⟩ := look_no B none [] x _ ((PMap_alloc hM (.cells #[.string x.f0, .int .i64 x.f1, .int .u64 x.f2] 34))) (by simp) hk
  have hc := blk_cell hb 0
  have hc1 := blk_cell hb 1
  simp at hc hc1
  have hbl := blk_lt hb
  have hf0 := blk_frozen hb 0
  have hf1 := blk_frozen hb 1
  have hRR := Aside0.mk hR
  have HB := Aside0.mk hb
  clear hok hR hb hM
  have q47 : ∀ (w : World) (r : Option Nat), (binOp .eql 47 (.map r) (.map none)).run Try.prog w = .ok (.bool r.isNone) w := fun w r => run_eql_map_nil w _ _ _ r Try.underlying47
  have hmm2 := @run_makeMap Try.prog
  unfold ltV
  go_enter Try.func15, Try.ntmps15
  go_wp2
  go_quiet (fail)
  go_wp2
  have hkey := lt_key hk
  obtain ⟨W, hW⟩ : ∃ W : World, W = (((w.alloc (.cells #[.string x.f0, .int .i64 x.f1, .int .u64 x.f2] 34)).drewN nq).setCell ⟨b, 1, none⟩ (.map (some (w.heap.size + 1)))).alloc (.map #[] 0) := ⟨_, rfl⟩
  rw [← hW]
  have hown : W.ownsMap Try.prog 34 (plainElem (H := Unit) Try.prog 3) (w.heap.size + 1) 0 (.map []) := by
    have h := World.ownsMap_made (H := Unit) (((w.alloc (.cells #[.string x.f0, .int .i64 x.f1, .int .u64 x.f2] 34)).drewN nq).setCell ⟨b, 1, none⟩ (.map (some (w.heap.size + 1)))) Try.prog 34 (plainElem (H := Unit) Try.prog 3)
    rw [← hW] at h
    simpa using h
  have hgW : w.grownBy W (some b) := by
    rw [hW]
    exact (((World.grownBy_alloc w (.cells #[.string x.f0, .int .i64 x.f1, .int .u64 x.f2] 34) (some b)).trans (grown_drewN _ nq _)).trans (grown_set _ b 1 _)).trans (World.grownBy_alloc _ _ _)
  have hbW : W.heap[b]? = some (.cells #[.slice A 0 c, .map (some (w.heap.size + 1))] 51 (0, 0)) := by
    rw [hW]
    exact blk_alloc (blk_put (blk_drewN (blk_alloc HB.out _) _) 1 _ rfl) _
  have hbxW : W.heap[w.heap.size]? = some (.cells #[.string x.f0, .int .i64 x.f1, .int .u64 x.f2] 34 (0, 0)) := by
    rw [hW]
    exact blk_alloc (blk_far (blk_drewN (blk_new w _) _) (by simp; omega) _) _
  have HRW : Aside0 (ltKd.R 34 W B (fun k => k ≠ b) (.slice A 0 c) []) := ⟨Kd.R_grown hRR.out hgW (fun k hk => by simpa using hk)⟩
  have hBelW : Below B w W := (Below.refl B w).grown hgW hBw (fun k hk => by cases hk; exact hB)
  have hWsz : W.heap.size = w.heap.size + 2 := by rw [hW]; simp
  clear hc hc1 hf0 hf1
  obtain ⟨w2, hrunU, hown2, hturn⟩ := World.ownsMap.store (w := W.drew) hown litKeyed Try.underlying47 (by unfold maxLen; omega) hkey (plainElem_int (H := Unit) Try.underlying3 (a := (0 : Int)) (by decide))
  unfold ltV at hrunU
  obtain ⟨es0, ck0, hob⟩ := own_obj hown
  have hne : b ≠ w.heap.size + 1 := by omega
  have hg2 : W.grownBy w2 (some (w.heap.size + 1)) := by have g := hturn.grown; exact ⟨g.os, g.tape, g.output, g.size, g.block⟩
  have hsz2 : w.heap.size + 2 ≤ w2.heap.size := by have := hg2.size; omega
  have hc := blk_cell hbW 0
  have hc1 := blk_cell hbW 1
  have g0 := blk_cell hbxW 0
  have g1 := blk_cell hbxW 1
  have g2 := blk_cell hbxW 2
  have hb2 := blk_grown hbW hg2 (by simpa using hne)
  have hbx := blk_grown hbxW hg2 (by simp)
  have d0 := blk_cell hb2 0
  have d1 := blk_cell hb2 1
  have e0 := blk_cell hbx 0
  have e1 := blk_cell hbx 1
  have e2 := blk_cell hbx 2
  have df := blk_frozen hb2 0
  simp at d0 d1 e0 e1 e2 df hc hc1 g0 g1 g2
  have HR2 : Aside0 (ltKd.R 34 w2 B (fun k => k ≠ b) (.slice A 0 c) []) := ⟨Kd.R_mono (Kd.R_grown (R_notmap HRW.out hob) hg2 (fun k hk => by simpa using hk.2)) (fun k hk => hk.1)⟩
  have HBB : Aside0 (Below B w w2) := ⟨hBelW.grown hg2 (by omega) (fun k hk => by cases hk; omega)⟩
  have hvm := Kd.R_away (g := w.heap.size + 1) (R_notmap HRW.out hob) (fun _ hk => hk.2)
  have hnv := Kd.R_away HR2.out (fun _ hk => hk)
  have HK2 : Aside0 (Kept b w w2) := ⟨((((Kept.below (below_alloc (Below.refl _ w) (.cells #[.string x.f0, .int .i64 x.f1, .int .u64 x.f2] 34))).trans (Kept.grown (grown_drewN _ nq none) (by simp))).trans (Kept.set (i := 1) (.map (some (w.heap.size + 1))))).trans (Kept.below (below_alloc (Below.refl _ _) (.map #[] 0)))).trans (by
    rw [← hW]
    exact Kept.grown hg2 (fun k cs t f e hc => by
      cases e
      rw [hob] at hc
      cases hc))⟩
  have HO2 := Aside0.mk hown2
  have HG2 := Aside0.mk hg2
  have HB2 := Aside0.mk hb2
  have hBw2 : B ≤ w2.heap.size := by omega
  have hbw2 : b < w2.heap.size := blk_lt hb2
  have hbne : b ≠ w2.heap.size := by omega
  clear hW hturn hob hown hown2 hg2 hb2 hbx hL hbW hbxW hgW hBelW
  go_region
  clear hc hc1 hrunU g0 g1 g2
  go_wp2
  go_region_law ((refine Kd.R_append_step ltKd (w0 := w) B (by rfl) _ _ 37 34 (.agg #[.string ByteArray.empty, .int .i64 0, .int .u64 0]) 32 (by rfl) Try.underlying37 (by kernel_rfl) rfl (by decide) (by omega) (.slice A 0 c) [] x [.string x.f0, .int .i64 x.f1, .int .u64 x.f2] (fun k => k ≠ b) (fun _ => False) (by rfl) (by rfl) ⟨_, _, rfl, rfl, ⟨_, _, rfl, rfl, rfl⟩⟩ (fun _ hk => hk.elim) (fun k hk => by have : w2.heap.size ≤ k := hk; omega) (Kd.R_drewN HR2.out _) (pw_below_drewN HBB.out _) hBw2 (by simp) ?_; intro v1 w3 hR3 hB3 hg3 hat3; obtain ⟨A1, c1, rfl⟩ := Kd.R_slice hR3; have hb3 := blk_grown (blk_drewN HB2.out _) hg3 hnv; have f0 := blk_cell hb3 0; have ff := blk_frozen hb3 0; simp at f0 ff))
  all_goals go_wp2
  all_goals
    go_ret2
    refine ⟨rfl, pool_put_end B b (w.heap.size + 1) [] x A c (.map []) _ _ hB (by omega) (by simp) hk (by simp) hb3 hR3 ?_ mr_nil, Below.setCell (p := ⟨b, 0, none⟩) hB3 hB _, (HK2.out.trans (Kept.grown (w := w2.drewN _) hg3 (fun k cs t f e hc => by
      obtain ⟨cells, hc'⟩ := Kd.R_typed (Kd.R_drewN HR2.out _) k e
      rw [hc'] at hc
      cases hc
      rfl))).trans (Kept.set _)⟩
    exact (World.ownsMap.kept (w := w2.drewN _) HO2.out hg3 hvm)
theorem store_put_new (B b : Nat) (l : List Lt) (x : Lt) (most : Int) (w : World) (hBw : B ≤ w.heap.size) (h : PoolAt B b l w) (hx : x ∉ l) (hk : ltOk x) (hm : l.length < most) (hmm : most ≤ 1000) :
    Calls Try.prog 15 #[.pointer (some ⟨b, 0, none⟩), ltV x, .int .i64 most] w fun e w' => e = .returned (.tuple #[.int .i64 l.length, .bool true]) ∧ PoolAt B b (l ++ [x]) w' ∧ Below B w w' ∧ Kept b w w' := by
  by_cases hmp : ∃ v, w.heap[b]? = some (.cells #[v, .map none] 51 (0, 0))
  · obtain rfl : l = [] := by
      obtain ⟨_, _, v, mp, hb, _, hM⟩ := h
      obtain ⟨v', h'⟩ := hmp
      rw [hb] at h'
      simp at h'
      rcases hM with ⟨_, hl⟩ | ⟨bm, D, rfl, _⟩
      · exact hl
      · simp at h'
    exact store_put_new0 B b x most w hBw h hmp hk (by simpa using hm) hmm
  · exact store_put_new1 B b l x most w hBw h hmp hx hk hm hmm
end Go.Proofs.Ytoglfjeggfbngaa.P
