/- The row of the law CodeFields, out of its pure statement and the printed walk. By wip/tools/rows.py. No conditions. -/
import Derived.Test.YtemenenkefcebaaDoorRows
import Derived.Test.YtemenenkefcebaaDoorQCodeFields
import Derived.WalkKit
import Derived.ProofKit
import Derived.OpenShut
import Derived.ShutString
import Derived.ChangeOld
import Derived.Below
import Derived.SizedLaws
import Derived.Carry
import Derived.ChangeSlices
import Derived.Test.YtemenenkefcebaaDoorTl05
import Derived.Test.YtemenenkefcebaaDoorTie
import Derived.Test.YtemenenkefcebaaDoorCards
import Derived.LaidMore
import Derived.Lay
import Derived.LaidOnce
import Derived.SevenTiedAt
namespace Go.Proofs.YtemenenkefcebaaDoor.codeFields
open Go.ChangeShapes Go.WideShapes Go.ChangeAt Go.RowKit Go.Proofs.YtemenenkefcebaaDoor.P Go.Proofs.YtemenenkefcebaaDoor.Op Go.Proofs.YtemenenkefcebaaDoor.Q Go.Proofs.YtemenenkefcebaaDoorW.PrintWords
open Go.ChangeMaps (open_string shut_string)
set_option linter.unusedVariables false
theorem own : ownKnob Tryd.prog.godebug = none := by kernel_rfl
theorem laidOut : laidOutB Tryd.prog = true := by kernel_rfl
abbrev laidL : List (String × DataW Unit) := [("cleat/inst.shapes", Rows.laid_cleat_inst_shapes), ("cleat/code.bases", Rows.laid_cleat_code_bases), ("cleat/code.fields", Rows.laid_cleat_code_fields)]
theorem door_met (os : Os) (args : Array Value) : laidMetH Tryd.prog laidL ((World.doorLaid Tryd.prog 24 os).forCall (fun _ _ => 0) ⟨#[], args, []⟩).memory :=
  laidMetH_of_parts3 (fuel := 8) (laidMet_of_run' 8 (by kernel_rfl) (by kernel_rfl)) (by kernel_rfl) (by kernel_rfl)
set_option maxRecDepth 100000 in
theorem lifted (os : Os) (started : os.Started) (H : Type) (enc : TypeId × Value → H) :
    ReturnsInHanded {} Tryd.checked os 6 .any (fun w args => (Rows.codeFieldsSpec.pre enc Tryd.prog Tryd.f6 [] false w args ∧ laidMetH Tryd.prog laidL w) ∧ sizedMet enc Tryd.prog Tryd.f6 (OpenSpec.ofChange Rows.codeFieldsSpec) false w args) (Rows.codeFieldsSpec.post enc Tryd.prog Tryd.f6 false true false false) := by
  refine returnsInHanded_of_change_and (C := Tryd.checked) (X := fun w _ => laidMetH Tryd.prog laidL w) (fun _ _ _ hh h => h.of_heap hh) own started (by kernel_rfl) Tryd.func6
    (ChangeSpec.witness_shaped (enc := enc) (C := Tryd.checked) (os := os) (X := fun w _ => laidMetH Tryd.prog laidL w) false (World.doorLaid Tryd.prog 24 os) #[.agg #[.int .i64 0, .int .i64 0, .int .i64 0, .int .i64 0, .int .i64 0, .int .i64 0, .int .u64 0, .int .i64 0, .int .i64 0, .int .i64 0], .agg #[.int .i64 0, .int .i64 0, .int .i64 0, .int .i64 0, .int .i64 0, .int .i64 0, .int .u64 0, .int .i64 0, .int .i64 0, .int .i64 0]] 8 rfl (World.shaped_of_RefB (by kernel_rfl) (by kernel_rfl)) (by kernel_rfl) (by kernel_rfl) (by kernel_rfl) (door_met os _)) ?_
  intro W base args ds gs before hval0 hW hcnd hsz0 hL _
  rw [MakeChecks.laidMetH_plain _ _ _ (by kernel_rfl)] at hL
  have HT : Aside0 (P.Tabs W) := ⟨Tl.tabs_laid hL (by repeat (first | exact List.mem_cons_self | apply List.mem_cons_of_mem)) (by repeat (first | exact List.mem_cons_self | apply List.mem_cons_of_mem)) (by repeat (first | exact List.mem_cons_self | apply List.mem_cons_of_mem))⟩
  have hsz : (DataW.weightsEach Tryd.prog (Tryd.f6.params.toList ++ Rows.codeFieldsSpec.plain.varTypes Tryd.prog) (ds ++ gs)).all (· ≤ reachBytes) = true := hsz0
  have hval : ∀ (j : Nat) t v, Tryd.f6.params[j]? = some t → args[j]? = some v → Value.okWide Tryd.prog W .any base t v := hval0
  have hW' := hW
  obtain ⟨p, q, hA0, hV, rfl, hfz, hnd⟩ := hW
  have hA : DataW.TrodAll enc Tryd.prog W 0 (fun _ => true) true Tryd.f6.params.toList args.toList ds p := hA0
  rw [Tryd.params6] at hA hval hsz
  obtain ⟨v0, vs0, d0, ds0, p0, q0, hargs, rfl, rfl, h0, r0⟩ := trodAll_cons hA
  obtain ⟨v1, vs1, d1, ds1, p1, q1, rfl, rfl, rfl, h1, r1⟩ := trodAll_cons r0
  obtain ⟨rfl, rfl, rfl⟩ := trodAll_nil r1
  obtain rfl : args = #[v0, v1] := by cases args; simp_all
  obtain ⟨rfl, rfl⟩ := trodVars_none hV
  have k0 := h0
  have lt0 : ∀ x ∈ p0, x.block < W.heap.size := by obtain ⟨m, hm⟩ := k0; exact DataW.trod_lt m _ _ _ hm
  obtain ⟨x0, cs0, rfl, hK0, hO0⟩ := opens_agg (d := (Kd.pair (Kd.int .i64) (Kd.pair (Kd.int .i64) (Kd.pair (Kd.int .i64) (Kd.pair (Kd.int .i64) (Kd.pair (Kd.int .i64) (Kd.pair (Kd.int .i64) (Kd.pair (Kd.int .u64) (Kd.pair (Kd.int .i64) (Kd.pair (Kd.int .i64) (Kd.int .i64))))))))))) Tryd.underlying24 (opens_struct Tryd.underlying24 (opensF_cons (opens_int Tryd.underlying3) (opensF_cons (opens_int Tryd.underlying3) (opensF_cons (opens_int Tryd.underlying3) (opensF_cons (opens_int Tryd.underlying3) (opensF_cons (opens_int Tryd.underlying3) (opensF_cons (opens_int Tryd.underlying3) (opensF_cons (opens_int Tryd.underlying22) (opensF_cons (opens_int Tryd.underlying3) (opensF_cons (opens_int Tryd.underlying3) (opensF_one (opens_int Tryd.underlying3) rfl (by kernel_rfl)) rfl (by kernel_rfl)) rfl (by kernel_rfl)) rfl (by kernel_rfl)) rfl (by kernel_rfl)) rfl (by kernel_rfl)) rfl (by kernel_rfl)) rfl (by kernel_rfl)) rfl (by kernel_rfl)) rfl (by kernel_rfl)) (by kernel_rfl)) (hval 0 24 v0 rfl rfl) h0
  obtain ⟨_, _, e0_0, h0_0, ⟨_, _, e0_1, h0_1, ⟨_, _, e0_2, h0_2, ⟨_, _, e0_3, h0_3, ⟨_, _, e0_4, h0_4, ⟨_, _, e0_5, h0_5, ⟨_, _, e0_6, h0_6, ⟨_, _, e0_7, h0_7, ⟨_, _, e0_8, h0_8, h0_9⟩⟩⟩⟩⟩⟩⟩⟩⟩ := hK0
  obtain ⟨o0_0, o0_1, o0_2, o0_3, o0_4, o0_5, o0_6, o0_7, o0_8, o0_9⟩ := hO0
  obtain rfl : cs0 = #[.int .i64 x0.1, .int .i64 x0.2.1, .int .i64 x0.2.2.1, .int .i64 x0.2.2.2.1, .int .i64 x0.2.2.2.2.1, .int .i64 x0.2.2.2.2.2.1, .int .u64 x0.2.2.2.2.2.2.1, .int .i64 x0.2.2.2.2.2.2.2.1, .int .i64 x0.2.2.2.2.2.2.2.2.1, .int .i64 x0.2.2.2.2.2.2.2.2.2] := by
    apply Array.toList_inj.1
    rw [e0_0, e0_1, e0_2, e0_3, e0_4, e0_5, e0_6, e0_7, e0_8]
    rw [show _ = _ from h0_0, show _ = _ from h0_1, show _ = _ from h0_2, show _ = _ from h0_3, show _ = _ from h0_4, show _ = _ from h0_5, show _ = _ from h0_6, show _ = _ from h0_7, show _ = _ from h0_8, show _ = _ from h0_9]
    rfl
  have k1 := h1
  have lt1 : ∀ x ∈ p1, x.block < W.heap.size := by obtain ⟨m, hm⟩ := k1; exact DataW.trod_lt m _ _ _ hm
  obtain ⟨x1, cs1, rfl, hK1, hO1⟩ := opens_agg (d := (Kd.pair (Kd.int .i64) (Kd.pair (Kd.int .i64) (Kd.pair (Kd.int .i64) (Kd.pair (Kd.int .i64) (Kd.pair (Kd.int .i64) (Kd.pair (Kd.int .i64) (Kd.pair (Kd.int .u64) (Kd.pair (Kd.int .i64) (Kd.pair (Kd.int .i64) (Kd.int .i64))))))))))) Tryd.underlying24 (opens_struct Tryd.underlying24 (opensF_cons (opens_int Tryd.underlying3) (opensF_cons (opens_int Tryd.underlying3) (opensF_cons (opens_int Tryd.underlying3) (opensF_cons (opens_int Tryd.underlying3) (opensF_cons (opens_int Tryd.underlying3) (opensF_cons (opens_int Tryd.underlying3) (opensF_cons (opens_int Tryd.underlying22) (opensF_cons (opens_int Tryd.underlying3) (opensF_cons (opens_int Tryd.underlying3) (opensF_one (opens_int Tryd.underlying3) rfl (by kernel_rfl)) rfl (by kernel_rfl)) rfl (by kernel_rfl)) rfl (by kernel_rfl)) rfl (by kernel_rfl)) rfl (by kernel_rfl)) rfl (by kernel_rfl)) rfl (by kernel_rfl)) rfl (by kernel_rfl)) rfl (by kernel_rfl)) (by kernel_rfl)) (hval 1 24 v1 rfl rfl) h1
  obtain ⟨_, _, e1_0, h1_0, ⟨_, _, e1_1, h1_1, ⟨_, _, e1_2, h1_2, ⟨_, _, e1_3, h1_3, ⟨_, _, e1_4, h1_4, ⟨_, _, e1_5, h1_5, ⟨_, _, e1_6, h1_6, ⟨_, _, e1_7, h1_7, ⟨_, _, e1_8, h1_8, h1_9⟩⟩⟩⟩⟩⟩⟩⟩⟩ := hK1
  obtain ⟨o1_0, o1_1, o1_2, o1_3, o1_4, o1_5, o1_6, o1_7, o1_8, o1_9⟩ := hO1
  obtain rfl : cs1 = #[.int .i64 x1.1, .int .i64 x1.2.1, .int .i64 x1.2.2.1, .int .i64 x1.2.2.2.1, .int .i64 x1.2.2.2.2.1, .int .i64 x1.2.2.2.2.2.1, .int .u64 x1.2.2.2.2.2.2.1, .int .i64 x1.2.2.2.2.2.2.2.1, .int .i64 x1.2.2.2.2.2.2.2.2.1, .int .i64 x1.2.2.2.2.2.2.2.2.2] := by
    apply Array.toList_inj.1
    rw [e1_0, e1_1, e1_2, e1_3, e1_4, e1_5, e1_6, e1_7, e1_8]
    rw [show _ = _ from h1_0, show _ = _ from h1_1, show _ = _ from h1_2, show _ = _ from h1_3, show _ = _ from h1_4, show _ = _ from h1_5, show _ = _ from h1_6, show _ = _ from h1_7, show _ = _ from h1_8, show _ = _ from h1_9]
    rfl
  clear hA0 hval0 hsz0 hsz
  refine (P.fields_walk x0.1 x0.2.1 x0.2.2.1 x0.2.2.2.1 x0.2.2.2.2.1 x0.2.2.2.2.2.1 x0.2.2.2.2.2.2.1 x0.2.2.2.2.2.2.2.1 x0.2.2.2.2.2.2.2.2.1 x0.2.2.2.2.2.2.2.2.2 x1.1 x1.2.1 x1.2.2.1 x1.2.2.2.1 x1.2.2.2.2.1 x1.2.2.2.2.2.1 x1.2.2.2.2.2.2.1 x1.2.2.2.2.2.2.2.1 x1.2.2.2.2.2.2.2.2.1 x1.2.2.2.2.2.2.2.2.2 W  o0_0 o0_1 o0_2 o0_3 o0_4 o0_5 o0_6 o0_7 o0_8 o0_9 o1_0 o1_1 o1_2 o1_3 o1_4 o1_5 o1_6 o1_7 o1_8 o1_9 HT).mono fun e W' hq => ?_
  obtain ⟨he, bel⟩ := hq
  subst he
  exact ⟨_, rfl, _, _, _, [], _, [], hW', trodAll_mk1 (shut_bool Tryd.underlying4 _), (trodAll_cons_mk (Below.trod laidOut (by kernel_rfl) (of_decide_eq_true (by kernel_rfl)) k0 bel lt0) (trodAll_cons_mk (Below.trod laidOut (by kernel_rfl) (of_decide_eq_true (by kernel_rfl)) k1 bel lt1) trodAll_mk0)), rfl, bel.frame _, fun h => by cases h⟩
theorem over : Rows.CodeFieldsSaid :=
  OpenClaim.holds_of_wide 6 Tryd.f6 rfl rfl rfl rfl rfl rfl rfl ⟨rfl, rfl, rfl, rfl, rfl⟩ rfl rfl rfl rfl rfl (by kernel_rfl) Tryd.func6 (by kernel_rfl)
    (of_decide_eq_true (by kernel_rfl)) (by unfold Func.isWrapper; first | (rw [if_pos (by decide +kernel)]; kernel_rfl) | (rw [if_neg (by decide +kernel)]; exact ⟨rfl, rfl⟩))
    (fun os started H enc _ => lifted os started H enc)
theorem proved : Rows.CodeFieldsCardSaid :=
  Claim7.holds_tied_plain_at .later [] [.data, .data, .data] true (true, "19d8196a5d4606d1720b83fa0c0ef4fe0a40db343b54c34aacb258aad4583c1b") false
    over (fun _ h => by cases h) (by kernel_rfl) (fun _ h => by cases h) codeFields_row_tie rfl ⟨rfl, rfl⟩ (by kernel_rfl) rfl
    (fun f fn hf hfn => by
      obtain rfl : f = 6 := Option.some.inj ((show Tryd.prog.funcNamed "cleat/cleatlaw05.CodeFields" = some 6 by kernel_rfl).symm.trans hf) |>.symm
      obtain rfl : fn = Tryd.f6 := (Option.some.inj (Tryd.func6.symm.trans hfn)).symm
      exact ⟨by kernel_rfl, fun j t ht => by
        rw [Tryd.params6] at ht
        have hm : t ∈ [24, 24] := by simpa using Array.mem_of_getElem? ht
        have hall : ([24, 24].all fun u => !Tryd.prog.wantsStandIn u) = true := by kernel_rfl
        exact (show Tryd.prog.wantsStandIn t = false by simpa using List.all_eq_true.1 hall t hm)⟩)
    (by kernel_rfl)
#print axioms proved
end Go.Proofs.YtemenenkefcebaaDoor.codeFields
namespace Go.Proofs.YtemenenkefcebaaDoor
/-- The card, under a short name, for the claim. -/
theorem codeFields_holds : Rows.CodeFieldsCardSaid := codeFields.proved
end Go.Proofs.YtemenenkefcebaaDoor
