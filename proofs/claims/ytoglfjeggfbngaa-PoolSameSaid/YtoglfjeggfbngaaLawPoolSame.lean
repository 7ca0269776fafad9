/- The row of the law PoolSame, out of its pure statement and the printed walk. By wip/tools/rows.py. No conditions. -/
import Derived.Test.YtoglfjeggfbngaaRows
import Derived.Test.YtoglfjeggfbngaaQPoolSame
import Derived.WalkKit
import Derived.ProofKit
import Derived.OpenShut
import Derived.ShutString
import Derived.ChangeOld
import Derived.Below
import Derived.SizedLaws
import Derived.Carry
import Derived.ChangeSlices
namespace Go.Proofs.Ytoglfjeggfbngaa.poolSame
open Go.ChangeShapes Go.WideShapes Go.ChangeAt Go.RowKit Go.Proofs.Ytoglfjeggfbngaa.P Go.Proofs.Ytoglfjeggfbngaa.Op Go.Proofs.Ytoglfjeggfbngaa.Q Go.Proofs.YtoglfjeggfbngaaW.PrintWords
open Go.ChangeMaps (open_string shut_string)
set_option linter.unusedVariables false
theorem own : ownKnob Try.prog.godebug = none := by kernel_rfl
theorem laidOut : laidOutB Try.prog = true := by kernel_rfl
set_option maxRecDepth 100000 in
theorem lifted (os : Os) (started : os.Started) (H : Type) (enc : TypeId × Value → H) :
    ReturnsInHanded {} Try.checked os 4 .any (Rows.poolSameSpec.pre6 enc Try.prog Try.f4 Rows.poolSameRow.domain false) (Rows.poolSameSpec.post enc Try.prog Try.f4 false true false false) := by
  refine returnsInHanded_of_change_sized (C := Try.checked) own started (by kernel_rfl) Try.func4
    (ChangeSpec.witness6 (enc := enc) (C := Try.checked) false ⟨#[], #[.agg #[.int .i64 0, .string ByteArray.empty, .int .i64 0, .bool false, .int .u64 0], .agg #[.int .i64 0, .string ByteArray.empty, .int .i64 0, .bool false, .int .u64 0]], []⟩ 8 (by kernel_rfl) (by kernel_rfl) (by kernel_rfl) (by kernel_rfl)) ?_
  intro W base args ds gs before hval0 hW hcnd hsz0 _
  have hsz : (DataW.weightsEach Try.prog (Try.f4.params.toList ++ Rows.poolSameSpec.plain.varTypes Try.prog) (ds ++ gs)).all (· ≤ reachBytes) = true := hsz0
  have hval : ∀ (j : Nat) t v, Try.f4.params[j]? = some t → args[j]? = some v → Value.okWide Try.prog W .any base t v := hval0
  have hW' := hW
  obtain ⟨p, q, hA0, hV, rfl, hfz, hnd⟩ := hW
  have hA : DataW.TrodAll enc Try.prog W 0 (fun _ => true) true Try.f4.params.toList args.toList ds p := hA0
  rw [Try.params4] at hA hval hsz
  obtain ⟨v0, vs0, d0, ds0, p0, q0, hargs, rfl, rfl, h0, r0⟩ := trodAll_cons hA
  obtain ⟨v1, vs1, d1, ds1, p1, q1, rfl, rfl, rfl, h1, r1⟩ := trodAll_cons r0
  obtain ⟨rfl, rfl, rfl⟩ := trodAll_nil r1
  obtain rfl : args = #[v0, v1] := by cases args; simp_all
  obtain ⟨rfl, rfl⟩ := trodVars_none hV
  have k0 := h0
  have lt0 : ∀ x ∈ p0, x.block < W.heap.size := by obtain ⟨m, hm⟩ := k0; exact DataW.trod_lt m _ _ _ hm
  obtain ⟨x0, cs0, rfl, hK0, hO0⟩ := opens_agg (d := (Kd.pair (Kd.int .i64) (Kd.pair Kd.string (Kd.pair (Kd.int .i64) (Kd.pair Kd.bool (Kd.int .u64)))))) Try.underlying30 (opens_struct Try.underlying30 (opensF_cons (opens_int Try.underlying3) (opensF_cons (opens_string Try.underlying9) (opensF_cons (opens_int Try.underlying3) (opensF_cons (opens_bool Try.underlying4) (opensF_one (opens_int Try.underlying28) rfl (by kernel_rfl)) rfl (by kernel_rfl)) rfl (by kernel_rfl)) rfl (by kernel_rfl)) rfl (by kernel_rfl)) (by kernel_rfl)) (hval 0 30 v0 rfl rfl) h0
  obtain ⟨_, _, e0_0, h0_0, ⟨_, _, e0_1, h0_1, ⟨_, _, e0_2, h0_2, ⟨_, _, e0_3, h0_3, h0_4⟩⟩⟩⟩ := hK0
  obtain ⟨o0_0, o0_1, o0_2, o0_3, o0_4⟩ := hO0
  obtain rfl : cs0 = #[.int .i64 x0.1, .string x0.2.1, .int .i64 x0.2.2.1, .bool x0.2.2.2.1, .int .u64 x0.2.2.2.2] := by
    apply Array.toList_inj.1
    rw [e0_0, e0_1, e0_2, e0_3]
    rw [show _ = _ from h0_0, show _ = _ from h0_1, show _ = _ from h0_2, show _ = _ from h0_3, show _ = _ from h0_4]
    rfl
  have k1 := h1
  have lt1 : ∀ x ∈ p1, x.block < W.heap.size := by obtain ⟨m, hm⟩ := k1; exact DataW.trod_lt m _ _ _ hm
  obtain ⟨x1, cs1, rfl, hK1, hO1⟩ := opens_agg (d := (Kd.pair (Kd.int .i64) (Kd.pair Kd.string (Kd.pair (Kd.int .i64) (Kd.pair Kd.bool (Kd.int .u64)))))) Try.underlying30 (opens_struct Try.underlying30 (opensF_cons (opens_int Try.underlying3) (opensF_cons (opens_string Try.underlying9) (opensF_cons (opens_int Try.underlying3) (opensF_cons (opens_bool Try.underlying4) (opensF_one (opens_int Try.underlying28) rfl (by kernel_rfl)) rfl (by kernel_rfl)) rfl (by kernel_rfl)) rfl (by kernel_rfl)) rfl (by kernel_rfl)) (by kernel_rfl)) (hval 1 30 v1 rfl rfl) h1
  obtain ⟨_, _, e1_0, h1_0, ⟨_, _, e1_1, h1_1, ⟨_, _, e1_2, h1_2, ⟨_, _, e1_3, h1_3, h1_4⟩⟩⟩⟩ := hK1
  obtain ⟨o1_0, o1_1, o1_2, o1_3, o1_4⟩ := hO1
  obtain rfl : cs1 = #[.int .i64 x1.1, .string x1.2.1, .int .i64 x1.2.2.1, .bool x1.2.2.2.1, .int .u64 x1.2.2.2.2] := by
    apply Array.toList_inj.1
    rw [e1_0, e1_1, e1_2, e1_3]
    rw [show _ = _ from h1_0, show _ = _ from h1_1, show _ = _ from h1_2, show _ = _ from h1_3, show _ = _ from h1_4]
    rfl
  clear hA0 hval0 hsz0 hsz
  refine (P.same_calls x0.1 x0.2.1 x0.2.2.1 x0.2.2.2.1 x0.2.2.2.2 x1.1 x1.2.1 x1.2.2.1 x1.2.2.2.1 x1.2.2.2.2  W o0_0 o0_1 o0_2 o0_4 o1_0 o1_1 o1_2 o1_4).mono fun e W' hq => ?_
  obtain ⟨he, bel⟩ := hq
  subst he
  exact ⟨_, rfl, _, _, _, [], _, [], hW', trodAll_mk1 (shut_bool Try.underlying4 _), (trodAll_cons_mk (Below.trod laidOut (by kernel_rfl) (of_decide_eq_true (by kernel_rfl)) k0 bel lt0) (trodAll_cons_mk (Below.trod laidOut (by kernel_rfl) (of_decide_eq_true (by kernel_rfl)) k1 bel lt1) trodAll_mk0)), rfl, bel.frame _, fun h => by cases h⟩
theorem over : Rows.poolSameRow.holds Try.pinned (OpenSpec.ofChange Rows.poolSameSpec) :=
  OpenClaim.holds_of_wide 4 Try.f4 rfl rfl rfl rfl rfl rfl rfl ⟨rfl, rfl, rfl, rfl, rfl⟩ rfl rfl rfl rfl rfl (by kernel_rfl) Try.func4 (by kernel_rfl)
    (of_decide_eq_true (by kernel_rfl)) (by unfold Func.isWrapper; first | (rw [if_pos (by decide +kernel)]; kernel_rfl) | (rw [if_neg (by decide +kernel)]; exact ⟨rfl, rfl⟩))
    (fun os started H enc _ => lifted os started H enc)
theorem proved : Rows.PoolSameSaid := over
#print axioms proved
end Go.Proofs.Ytoglfjeggfbngaa.poolSame
namespace Go.Proofs.Ytoglfjeggfbngaa
/-- The row, under a short name, for the claim. -/
theorem poolSame_holds : Rows.PoolSameSaid := poolSame.proved
end Go.Proofs.Ytoglfjeggfbngaa
