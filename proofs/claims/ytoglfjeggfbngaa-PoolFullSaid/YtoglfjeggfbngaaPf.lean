/- PoolFull, walked by hand. -/
import Derived.Test.YtoglfjeggfbngaaPt
import Derived.Test.YtoglfjeggfbngaaKb
namespace Go.Proofs.Ytoglfjeggfbngaa.P
open Go.RowKit Go.Maps Go.MapKept Go.ChangeMaps Go.ChangeShapes Go.WideShapes Go.Proofs.YtoglfjeggfbngaaW.PrintWords Go.Proofs.YtoglfjeggfbngaaW.PrintLast Go.Proofs.YtoglfjeggfbngaaW.PrintMore
set_option linter.unusedVariables false
set_option linter.unusedSimpArgs false
def litN (j : Nat) : Lt := ⟨⟨#[]⟩, 0, 1000 + j⟩
def litsN (k : Nat) : List Lt := (List.range k).map litN
theorem litN_inj {i j : Nat} (h : litN i = litN j) : i = j := by
  unfold litN at h
  simp at h
  omega
theorem litN_mem {i k : Nat} : litN i ∈ litsN k ↔ i < k := by
  unfold litsN
  rw [List.mem_map]
  constructor
  · rintro ⟨j, hj, h⟩
    rw [← litN_inj h]
    simpa using hj
  · intro h
    exact ⟨i, by simpa using h, rfl⟩
theorem litsN_len (k : Nat) : (litsN k).length = k := by simp [litsN]
theorem litsN_succ (k : Nat) : litsN (k + 1) = litsN k ++ [litN k] := by simp [litsN, List.range_succ]
theorem litN_idx {i : Nat} : ∀ {k : Nat}, i < k → (litsN k).idxOf (litN i) = i
  | 0, h => by omega
  | k + 1, h => by
    rw [litsN_succ, List.idxOf_append]
    by_cases e : i < k
    · rw [if_pos (litN_mem.2 e)]
      exact litN_idx e
    · rw [if_neg (fun h => e (litN_mem.1 h)), litsN_len]
      obtain rfl : i = k := by omega
      simp
theorem put_N (B b k : Nat) (a : Int) (w : World) (ha : a = 1000 + k) (hk : k < 64) (hBw : B ≤ w.heap.size) (h : PoolAt B b (litsN k) w) : Calls Try.prog 9 #[.pointer (some ⟨b, 0, none⟩), .agg #[.int .i64 10, .string ⟨#[]⟩, .int .i64 0, .bool false, .int .u64 a]] w fun e w' => e = .returned (.tuple #[.int .i64 k, .int .i64 0]) ∧ PoolAt B b (litsN (k + 1)) w' ∧ Below B w w' := by
  subst ha
  have h0 := pool_put B b (litsN k) ⟨10, ⟨#[]⟩, 0, false, 1000 + k⟩ w hBw h ⟨by simp [maxLen]; decide, by simp [Lit.wf, IntKind.min, IntKind.max, IntKind.signed, IntKind.bits], by simp [Lit.wf, IntKind.min, IntKind.max, IntKind.signed, IntKind.bits]; omega⟩
  have hb : ofB ⟨10, ⟨#[]⟩, 0, false, 1000 + k⟩ = true := by simp [ofB]
  have hl : ofL ⟨10, ⟨#[]⟩, 0, false, 1000 + k⟩ = litN k := by simp [ofL, hb, litN]
  have hm : ¬ litN k ∈ litsN k := fun h => by have := litN_mem.1 h; omega
  have hlen := litsN_len k
  unfold putK putE putL at h0
  rw [hb] at h0
  simp only [if_true, hl, stK, stB, stL, hm, if_false, hlen, hk, or_true, decide_true, ← litsN_succ] at h0
  exact h0
theorem put_a (B b : Nat) (w : World) (hBw : B ≤ w.heap.size) (h : PoolAt B b (litsN 64) w) : Calls Try.prog 9 #[.pointer (some ⟨b, 0, none⟩), .agg #[.int .i64 10, .string ⟨#[97]⟩, .int .i64 0, .bool false, .int .u64 0]] w fun e w' => e = .returned (.tuple #[.int .i64 0, .int .i64 2]) ∧ PoolAt B b (litsN 64) w' ∧ Below B w w' := by
  have h0 := pool_put B b (litsN 64) nD w hBw h ⟨by decide, by decide, by decide⟩
  have hb : ofB nD = true := by decide
  have hm : ¬ ofL nD ∈ litsN 64 := by
    intro h
    unfold litsN at h
    rw [List.mem_map] at h
    obtain ⟨j, _, h⟩ := h
    have : (litN j).f0 = (ofL nD).f0 := by rw [h]
    revert this
    have e1 : (litN j).f0 = ⟨#[]⟩ := rfl
    rw [e1]
    decide
  unfold putK putE putL at h0
  rw [hb] at h0
  simp only [if_true, stK, stB, stL, hm, if_false, litsN_len, Nat.lt_irrefl, or_self, decide_false, Bool.false_eq_true] at h0
  exact h0
theorem put_again (B b n : Nat) (a : Int) (w : World) (ha : a = 1000 + n) (hn : n < 64) (hBw : B ≤ w.heap.size) (h : PoolAt B b (litsN 64) w) : Calls Try.prog 9 #[.pointer (some ⟨b, 0, none⟩), .agg #[.int .i64 10, .string ⟨#[]⟩, .int .i64 0, .bool false, .int .u64 a]] w fun e w' => e = .returned (.tuple #[.int .i64 n, .int .i64 0]) ∧ PoolAt B b (litsN 64) w' ∧ Below B w w' := by
  subst ha
  have h0 := pool_put B b (litsN 64) ⟨10, ⟨#[]⟩, 0, false, 1000 + n⟩ w hBw h ⟨by simp [maxLen]; decide, by simp [Lit.wf, IntKind.min, IntKind.max, IntKind.signed, IntKind.bits], by simp [Lit.wf, IntKind.min, IntKind.max, IntKind.signed, IntKind.bits]; omega⟩
  have hb : ofB ⟨10, ⟨#[]⟩, 0, false, 1000 + n⟩ = true := by simp [ofB]
  have hl : ofL ⟨10, ⟨#[]⟩, 0, false, 1000 + n⟩ = litN n := by simp [ofL, hb, litN]
  have hm : litN n ∈ litsN 64 := litN_mem.2 hn
  unfold putK putE putL at h0
  rw [hb] at h0
  simp only [if_true, hl, stK, stB, stL, hm, true_or, decide_true, litN_idx hn] at h0
  exact h0
theorem full_out (n : Int) (w : World) (hn : n < 0 ∨ 63 < n) : Calls Try.prog 3 #[.int .i64 n] w fun e w' => e = .returned (.bool true) ∧ Below w.heap.size w w' := by
  rcases hn with hn | hn
  · go_enter Try.func3, Try.ntmps3
    go_wp2_with (go_at_call 7; refine (pooled_calls _).mono ?_; rintro e w1 ⟨rfl, hb⟩)
    go_ret
    exact ⟨rfl, hb⟩
  · have h0 : ¬ n < 0 := by omega
    go_enter Try.func3, Try.ntmps3
    go_wp2_with (go_at_call 7; refine (pooled_calls _).mono ?_; rintro e w1 ⟨rfl, hb⟩)
    go_ret
    exact ⟨rfl, hb⟩
set_option maxHeartbeats 2000000 in
theorem full_in (n : Nat) (w : World) (hn : n < 64) : Calls Try.prog 3 #[.int .i64 n] w fun e w' => e = .returned (.bool true) ∧ Below w.heap.size w w' := by
  go_enter Try.func3, Try.ntmps3
  go_wp2_with (go_at_call 8; refine (pool_made _).mono ?_; rintro e w1 ⟨rfl, hp_, hb_, hs_⟩; have P0 := Aside0.mk hp_; have P0B := Aside0.mk hb_; have P0S := Nat.le_of_lt hs_; clear hp_ hb_ hs_)
  go_loopw [4] (fun i wr => ∃ k : Nat, i = .int .i64 k ∧ k ≤ 64 ∧ Aside0 (PoolAt w.heap.size w.heap.size (litsN k) wr) ∧ Aside0 (Below w.heap.size w wr) ∧ w.heap.size ≤ wr.heap.size) (fun i _ => 64 - (intOf i).toNat)
  case atStart => exact ⟨0, rfl, by omega, P0, P0B, P0S⟩
  case round =>
    clear P0 P0B P0S
    obtain ⟨k, rfl, hk, HP, HB, HS⟩ := hrel
    by_cases hlt : k < 64
    · go_wp2_with (go_at_call 9; refine (put_N w.heap.size w.heap.size k _ _ ?ha hlt HS HP.out).mono ?_; (case ha => first | rfl | omega | (rw [Go.Proofs.Ytoglfjeggfbngaa.K.wu64]; omega)); rintro e w2 ⟨rfl, hp_, hb_⟩; have HP2 := Aside0.mk hp_; have HB2 := Aside0.mk (HB.out.trans hb_); have HS2 := Nat.le_trans HS hb_.size; clear hp_ hb_)
      go_roundw
      case rel => exact ⟨k + 1, by go_num, by omega, HP2, HB2, HS2⟩
      case measure => simp [intOf]; omega
    · obtain rfl : k = 64 := by omega
      go_wp2_with (go_at_call 9; (with_reducible refine (put_a w.heap.size w.heap.size _ HS HP.out).mono ?_); rintro e w2 ⟨rfl, hp_, hb_⟩; have HP2 := Aside0.mk hp_; have HB2 := Aside0.mk (HB.out.trans hb_); have HS2 := Nat.le_trans HS hb_.size; clear hp_ hb_)
      go_wp2_with (go_at_call 9; refine (put_again w.heap.size w.heap.size n _ _ ?ha hn HS2 HP2.out).mono ?_; (case ha => first | rfl | omega | (rw [Go.Proofs.Ytoglfjeggfbngaa.K.wu64]; omega)); rintro e w3 ⟨rfl, hp_, hb_⟩; have HP3 := Aside0.mk hp_; have HB3 := Aside0.mk (HB2.out.trans hb_); have HS3 := Nat.le_trans HS2 hb_.size; clear hp_ hb_)
      go_wp2_with (go_at_call 7; refine (pooled_calls _).mono ?_; rintro e w4 ⟨rfl, hb_⟩; have HP4 := Aside0.mk (PoolAt_keep HP3.out hb_); have HB4 := Aside0.mk (HB3.out.trans (hb_.mono HS3)); clear hb_)
      go_wp2_with (go_at_call 10; refine (pool_size w.heap.size w.heap.size _ _ HP4.out).mono ?_; rintro e w' ⟨rfl, rfl⟩)
      go_ret
      exact ⟨rfl, HB4.out⟩
theorem full_calls (n : Int) (w : World) (_h : (Lit.int .i64 n).wf = true) : Calls Try.prog 3 #[.int .i64 n] w fun e w' => e = .returned (.bool true) ∧ Below w.heap.size w w' := by
  by_cases h : n < 0 ∨ 63 < n
  · exact full_out n w h
  · obtain ⟨k, rfl⟩ : ∃ k : Nat, n = k := ⟨n.toNat, by omega⟩
    exact full_in k w (by omega)
end Go.Proofs.Ytoglfjeggfbngaa.P
