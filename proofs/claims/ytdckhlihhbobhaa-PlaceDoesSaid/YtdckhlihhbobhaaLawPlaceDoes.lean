/- The row of the law PlaceDoes, out of its pure statement and the printed walk. By wip/tools/rows.py. No conditions. -/
import Derived.Test.YtdckhlihhbobhaaRows
import Derived.Test.YtdckhlihhbobhaaQPlaceDoes
import Derived.Test.YtdckhlihhbobhaaPurePlaceDoes
import Derived.WalkKit
import Derived.ProofKit
import Derived.OpenShut
import Derived.ShutString
import Derived.ChangeOld
import Derived.Below
import Derived.SizedLaws
import Derived.Carry
import Derived.ChangeSlices
namespace Go.Proofs.Ytdckhlihhbobhaa.placeDoes
open Go.ChangeShapes Go.WideShapes Go.ChangeAt Go.RowKit Go.Proofs.Ytdckhlihhbobhaa.P Go.Proofs.Ytdckhlihhbobhaa.Op Go.Proofs.Ytdckhlihhbobhaa.Q Go.Proofs.YtdckhlihhbobhaaW.PrintWords
open Go.ChangeMaps (open_string shut_string)
set_option linter.unusedVariables false
theorem own : ownKnob Try.prog.godebug = none := by kernel_rfl
theorem laidOut : laidOutB Try.prog = true := by kernel_rfl
set_option maxRecDepth 100000 in
theorem lifted (os : Os) (started : os.Started) (H : Type) (enc : TypeId × Value → H) :
    ReturnsInHanded {} Try.checked os 3 .any (Rows.placeDoesSpec.pre6 enc Try.prog Try.f3 Rows.placeDoesRow.domain false) (Rows.placeDoesSpec.post enc Try.prog Try.f3 false true false false) := by
  refine returnsInHanded_of_change_sized (C := Try.checked) own started (by kernel_rfl) Try.func3
    (ChangeSpec.witness6 (enc := enc) (C := Try.checked) false ⟨#[], #[.agg #[.int .u64 0, .int .u64 0, .int .u64 0, .int .i64 0], .int .u64 0, .int .i64 0, .slice none 0 0, .int .u64 0], []⟩ 8 (by kernel_rfl) (by kernel_rfl) (by kernel_rfl) (by kernel_rfl)) ?_
  intro W base args ds gs before hval0 hW hcnd hsz0 _
  have hsz : (DataW.weightsEach Try.prog (Try.f3.params.toList ++ Rows.placeDoesSpec.plain.varTypes Try.prog) (ds ++ gs)).all (· ≤ reachBytes) = true := hsz0
  have hval : ∀ (j : Nat) t v, Try.f3.params[j]? = some t → args[j]? = some v → Value.okWide Try.prog W .any base t v := hval0
  have hW' := hW
  obtain ⟨p, q, hA0, hV, rfl, hfz, hnd⟩ := hW
  have hA : DataW.TrodAll enc Try.prog W 0 (fun _ => true) true Try.f3.params.toList args.toList ds p := hA0
  rw [Try.params3] at hA hval hsz
  obtain ⟨v0, vs0, d0, ds0, p0, q0, hargs, rfl, rfl, h0, r0⟩ := trodAll_cons hA
  obtain ⟨v1, vs1, d1, ds1, p1, q1, rfl, rfl, rfl, h1, r1⟩ := trodAll_cons r0
  obtain ⟨v2, vs2, d2, ds2, p2, q2, rfl, rfl, rfl, h2, r2⟩ := trodAll_cons r1
  obtain ⟨v3, vs3, d3, ds3, p3, q3, rfl, rfl, rfl, h3, r3⟩ := trodAll_cons r2
  obtain ⟨v4, vs4, d4, ds4, p4, q4, rfl, rfl, rfl, h4, r4⟩ := trodAll_cons r3
  obtain ⟨rfl, rfl, rfl⟩ := trodAll_nil r4
  obtain rfl : args = #[v0, v1, v2, v3, v4] := by cases args; simp_all
  obtain ⟨rfl, rfl⟩ := trodVars_none hV
  have k0 := h0
  have lt0 : ∀ x ∈ p0, x.block < W.heap.size := by obtain ⟨m, hm⟩ := k0; exact DataW.trod_lt m _ _ _ hm
  obtain ⟨x0, cs0, rfl, hK0, hO0⟩ := opens_agg (d := (Kd.pair (Kd.int .u64) (Kd.pair (Kd.int .u64) (Kd.pair (Kd.int .u64) (Kd.int .i64))))) Try.underlying24 (opens_struct Try.underlying24 (opensF_cons (opens_int Try.underlying22) (opensF_cons (opens_int Try.underlying22) (opensF_cons (opens_int Try.underlying22) (opensF_one (opens_int Try.underlying3) rfl (by kernel_rfl)) rfl (by kernel_rfl)) rfl (by kernel_rfl)) rfl (by kernel_rfl)) (by kernel_rfl)) (hval 0 24 v0 rfl rfl) h0
  obtain ⟨_, _, e0_0, h0_0, ⟨_, _, e0_1, h0_1, ⟨_, _, e0_2, h0_2, h0_3⟩⟩⟩ := hK0
  obtain ⟨o0_0, o0_1, o0_2, o0_3⟩ := hO0
  obtain rfl : cs0 = #[.int .u64 x0.1, .int .u64 x0.2.1, .int .u64 x0.2.2.1, .int .i64 x0.2.2.2] := by
    apply Array.toList_inj.1
    rw [e0_0, e0_1, e0_2]
    rw [show _ = _ from h0_0, show _ = _ from h0_1, show _ = _ from h0_2, show _ = _ from h0_3]
    rfl
  obtain ⟨a1, rfl, rfl, rfl, w1⟩ := open_int Try.underlying22 (hval 1 22 v1 rfl rfl) h1
  obtain ⟨a2, rfl, rfl, rfl, w2⟩ := open_int Try.underlying3 (hval 2 3 v2 rfl rfl) h2
  have k3 := h3
  have lt3 : ∀ x ∈ p3, x.block < W.heap.size := by obtain ⟨m, hm⟩ := k3; exact DataW.trod_lt m _ _ _ hm
  obtain ⟨A3, len3, c3, rfl⟩ := okWide_slice Try.underlying25 (hval 3 25 v3 rfl rfl)
  have y3 : len3 * 16 ≤ 140737488351232 := row_sized Try.underlying25 hsz (j := 3) rfl rfl (by kernel_rfl) k3
  obtain ⟨l3, rfl, hr3, hc3, _, hk3⟩ := opens_row Try.underlying25 opens_PlaceDoes_S34 (by kernel_rfl) h3
  obtain ⟨a4, rfl, rfl, rfl, w4⟩ := open_int Try.underlying22 (hval 4 22 v4 rfl rfl) h4
  clear hA0 hval0 hsz0 hsz
  obtain ⟨kk, hp⟩ := Pure.PlaceDoes x0.1 x0.2.1 x0.2.2.1 x0.2.2.2 a1 a2 l3 a4 o0_0 o0_1 o0_2 o0_3 w1 w2 y3 hk3 w4
  refine (cleatlaw24_PlaceDoes.calls kk x0.1 x0.2.1 x0.2.2.1 x0.2.2.2 a1 a2 A3 c3 l3 a4 true W hr3 hc3 hp).mono fun e W' hq => ?_
  obtain ⟨he, bel⟩ := hq
  subst he
  exact ⟨_, rfl, _, _, _, [], _, [], hW', trodAll_mk1 (shut_bool Try.underlying4 _), (trodAll_cons_mk (Below.trod laidOut (by kernel_rfl) (of_decide_eq_true (by kernel_rfl)) k0 bel lt0) (trodAll_cons_mk (shut_int Try.underlying22 w1) (trodAll_cons_mk (shut_int Try.underlying3 w2) (trodAll_cons_mk (Below.trod laidOut (by kernel_rfl) (of_decide_eq_true (by kernel_rfl)) k3 bel lt3) (trodAll_cons_mk (shut_int Try.underlying22 w4) trodAll_mk0))))), rfl, bel.frame _, fun h => by cases h⟩
theorem over : Rows.placeDoesRow.holds Try.pinned (OpenSpec.ofChange Rows.placeDoesSpec) :=
  OpenClaim.holds_of_wide 3 Try.f3 rfl rfl rfl rfl rfl rfl rfl ⟨rfl, rfl, rfl, rfl, rfl⟩ rfl rfl rfl rfl rfl (by kernel_rfl) Try.func3 (by kernel_rfl)
    (of_decide_eq_true (by kernel_rfl)) (by unfold Func.isWrapper; first | (rw [if_pos (by decide +kernel)]; kernel_rfl) | (rw [if_neg (by decide +kernel)]; exact ⟨rfl, rfl⟩))
    (fun os started H enc _ => lifted os started H enc)
theorem proved : Rows.PlaceDoesSaid := over
#print axioms proved
end Go.Proofs.Ytdckhlihhbobhaa.placeDoes
namespace Go.Proofs.Ytdckhlihhbobhaa
/-- The row, under a short name, for the claim. -/
theorem placeDoes_holds : Rows.PlaceDoesSaid := placeDoes.proved
end Go.Proofs.Ytdckhlihhbobhaa
