/- store.take; the pool's methods by contract. -/
import Derived.Test.YtoglfjeggfbngaaPo
namespace Go.Proofs.Ytoglfjeggfbngaa.P
open Go.RowKit Go.Maps Go.MapKept Go.ChangeMaps Go.ChangeShapes Go.WideShapes Go.Proofs.YtoglfjeggfbngaaW.PrintWords Go.Proofs.YtoglfjeggfbngaaW.PrintLast Go.Proofs.YtoglfjeggfbngaaW.PrintMore
set_option linter.unusedVariables false
set_option linter.unusedSimpArgs false
/-- clear(m): a map of none. -/
theorem own_clear {w : World} {bm n : Nat} {D : DataW Unit} (h : w.ownsMap Try.prog 34 (plainElem Try.prog 3) bm n D) (ty : TypeId) :
    ∃ w', (Builtin.clear_ #[47] ty #[.map (some bm)]).run Try.prog w = .ok (.tuple #[]) w' ∧ w'.ownsMap Try.prog 34 (plainElem (H := Unit) Try.prog 3) bm 0 (.map []) ∧ w.grownBy w' (some bm) := by
  obtain ⟨es, clock, hb, F, hs, rfl⟩ := h
  refine ⟨{ w with heap := w.heap.setIfInBounds bm (.map #[] clock) }, ?_, ?_, ?_⟩
  · simp [Builtin.clear_, run_underlying Try.underlying47, MapKept.run_getObj_map hb, MapKept.run_setObj_map _ hb, Result.andThen]
  · exact ⟨#[], clock, by simp [Array.getElem?_setIfInBounds, (Array.getElem?_eq_some_iff.1 hb).1], ⟨by simp, stamped_empty clock, by simp⟩, Nat.le_refl _, rfl⟩
  · exact ⟨rfl, rfl, rfl, by simp, fun j hj hne => by simp [Array.getElem?_setIfInBounds]; intro e; exact absurd (by rw [e]) hne⟩
theorem clear_nil (w : World) (ty : TypeId) : (Builtin.clear_ #[47] ty #[.map none]).run Try.prog w = .ok (.tuple #[]) w := by
  simp [Builtin.clear_, run_underlying Try.underlying47, Result.andThen]
section
variable {ops : Array Oper} {rest : List Oper} {o : Oper} {a : Act} {Q : Exit → Act → World → Prop}
theorem wpList_clear (w : World) (hg : o.guard = none) (m : Operand) (mp : Option Nat) (B n : Nat) (l : List Lt) (hop : o.op = Op.call { callee := Callee.builtin Builtin.clear, args := #[m], argTypes := #[47] })
    (hm : a.eval m = .map mp) (hM : PMap B mp l w)
    (hK : ∀ w', PMap B mp [] w' → w.grownBy w' mp → wpList Try.prog ops Q rest (a.put o.dst (.tuple #[])) w') : wpList Try.prog ops Q (o :: rest) a w := by
  refine wpList_plain hg fun K' hK' => ?_
  rcases hM with ⟨rfl, rfl⟩ | ⟨bm, D, rfl, hbm, hown, hMr⟩
  · unfold Oper.wp
    simp [execOp, hop, resolve, invoke, builtin, hm, clear_nil, Result.andThen]
    exact hK' _ _ (hK w (Or.inl ⟨rfl, rfl⟩) ⟨rfl, rfl, rfl, Nat.le_refl _, fun _ _ _ => rfl⟩)
  · obtain ⟨w', hrun, r1, r2⟩ := own_clear hown o.type
    unfold Oper.wp
    simp [execOp, hop, resolve, invoke, builtin, hm, hrun, Result.andThen]
    exact hK' _ _ (hK w' (Or.inr ⟨bm, _, rfl, hbm, r1, mr_nil⟩) r2)
end
theorem PMap_ne {B b : Nat} {mp : Option Nat} {l : List Lt} {w : World} {cs : Array Value} {t : TypeId} {f : Nat × Nat} (h : PMap B mp l w) (hb : w.heap[b]? = some (.cells cs t f)) : ∀ k, mp = some k → some b ≠ some k := by
  rintro k rfl e
  cases e
  rcases h with ⟨h, _⟩ | ⟨bm, D, h, hbm, hown, hMr⟩
  · cases h
  · cases h
    obtain ⟨es, ck, ho⟩ := own_obj hown
    rw [hb] at ho
    cases ho
theorem R_notmp {d : Kd Lt} {e base : Nat} {ok : Nat → Prop} {w : World} {v : Value} {xs : List Lt} (h : d.R e w base ok v xs) {B : Nat} {mp : Option Nat} {l : List Lt} (hM : PMap B mp l w) : d.R e w base (fun k => ok k ∧ some k ≠ mp) v xs := by
  rcases hM with ⟨rfl, _⟩ | ⟨bm, D, rfl, hbm, hown, hMr⟩
  · exact Kd.R_mono h (fun k hk => ⟨hk, by simp⟩)
  · obtain ⟨es, ck, ho⟩ := own_obj hown
    exact Kd.R_mono (R_notmap h ho) (fun k hk => ⟨hk.1, by simpa using hk.2⟩)
theorem PMap_base {B : Nat} {mp : Option Nat} {l : List Lt} {w : World} (h : PMap B mp l w) : ∀ k, mp = some k → B ≤ k := by
  rintro k rfl
  rcases h with ⟨h, _⟩ | ⟨bm, D, h, hbm, hown, hMr⟩
  · cases h
  · cases h; exact hbm
/-- All blocks of cells but b are as they were. -/
def KeptAll (b : Nat) (w w1 : World) : Prop := ∀ j cs t f, w.heap[j]? = some (.cells cs t f) → j ≠ b → w1.heap[j]? = some (.cells cs t f)
theorem KeptAll.kept {b : Nat} {w w1 : World} (h : KeptAll b w w1) : Kept b w w1 := fun j cs t f hj hb _ => h j cs t f hj hb
/-- A pool of none, its list nil. -/
def PoolNil (B b : Nat) (w : World) : Prop := ∃ mp, w.heap[b]? = some (.cells #[.slice none 0 0, .map mp] 51 (0, 0)) ∧ PMap B mp [] w
set_option maxHeartbeats 2000000 in
theorem store_take (B b : Nat) (l : List Lt) (w : World) (hBw : B ≤ w.heap.size) (h : PoolAt B b l w) :
    Calls Try.prog 16 #[.pointer (some ⟨b, 0, none⟩)] w fun e w' => ∃ v, e = .returned v ∧ ltKd.R 34 w' B (fun k => k ≠ b) v l ∧ PoolAt B b [] w' ∧ Below B w w' ∧ KeptAll b w w' ∧ PoolNil B b w' := by
  obtain ⟨hB, hok, v, mp, hb, hR, hM⟩ := h
  obtain ⟨A, c, rfl⟩ := Kd.R_slice hR
  have hc := blk_cell hb 0
  have hc1 := blk_cell hb 1
  have hf0 := blk_frozen hb 0
  simp at hc hc1 hf0
  have hRR := Aside0.mk hR
  have HB := Aside0.mk hb
  have HM := Aside0.mk hM
  clear hR hb hM hok
  have hne := PMap_ne HM.out HB.out
  go_enter Try.func16, Try.ntmps16
  go_wp2_with ((with_reducible refine gate_builtin (b := .clear) (xs := #[.tmp 14]) rfl ?_); refine wpList_clear _ rfl _ mp B l.length l rfl rfl (PMap_grown HM.out (grown_set _ b 0 _) hne) ?_; intro w' HM2 hg2)
  go_ret
  refine ⟨_, rfl, ?_, ?_, ?_, ?_, ⟨_, blk_grown (blk_put HB.out 0 _ rfl) hg2 (fun e => hne _ e.symm rfl), HM2⟩⟩
  · exact Kd.R_mono (Kd.R_grown (Kd.R_far (R_notmp hRR.out HM.out) (fun k hk => hk.1) _) hg2 (fun k hk => hk.2)) (fun k hk => hk.1)
  · exact ⟨hB, by simp, _, _, blk_grown (blk_put HB.out 0 _ rfl) hg2 (fun e => hne _ e.symm rfl), Kd.R_nil _ _ _ _ _, HM2⟩
  · exact (Below.setCell (p := ⟨b, 0, none⟩) (Below.refl B w) hB _).grown hg2 (by simpa using hBw) (PMap_base HM.out)
  · intro j cs t f hj hb
    have h1 : (w.setCell ⟨b, 0, none⟩ (.slice none 0 0)).heap[j]? = some (.cells cs t f) := (Below.heap_setCell w ⟨b, 0, none⟩ _ j hb).trans hj
    refine (hg2.block j (blk_lt h1) (fun e => ?_)).trans h1
    exact PMap_ne (b := j) HM.out hj j e.symm rfl
end Go.Proofs.Ytoglfjeggfbngaa.P
