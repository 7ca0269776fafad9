/- The pool's methods by contract: Put, Take, Size, and Of. -/
import Derived.Test.YtoglfjeggfbngaaPq
namespace Go.Proofs.Ytoglfjeggfbngaa.P
open Go.RowKit Go.Maps Go.MapKept Go.ChangeMaps Go.ChangeShapes Go.WideShapes Go.Proofs.YtoglfjeggfbngaaW.PrintWords Go.Proofs.YtoglfjeggfbngaaW.PrintLast Go.Proofs.YtoglfjeggfbngaaW.PrintMore
set_option linter.unusedVariables false
set_option linter.unusedSimpArgs false
/-- A need. -/
structure Nd where
  f0 : Int
  f1 : ByteArray
  f2 : Int
  f3 : Bool
  f4 : Int
deriving DecidableEq
def ndV (n : Nd) : Value := .agg #[.int .i64 n.f0, .string n.f1, .int .i64 n.f2, .bool n.f3, .int .u64 n.f4]
def ndOk (n : Nd) : Prop := n.f1.size ≤ maxLen ∧ (Lit.int .i64 n.f2).wf = true ∧ (Lit.int .u64 n.f4).wf = true
/-- Is it a need of a literal? -/
def ofB (n : Nd) : Bool := decide (n.f0 = 10 ∧ (n.f1.data.toList = [] ∨ n.f4 = 0 ∧ n.f3 = false))
def ofE (n : Nd) : Int := if ofB n = true then 0 else 1
def ofL (n : Nd) : Lt := if ofB n = true then (if n.f1.data.toList = [] then (if n.f3 = true then ⟨⟨#[]⟩, 0, IntKind.u64.wrap (-n.f4)⟩ else ⟨⟨#[]⟩, 0, n.f4⟩) else ⟨n.f1, n.f2, 0⟩) else ⟨⟨#[]⟩, 0, 0⟩
theorem of_f (n : Nd) : pool_Of.f 1 n.f0 n.f1 n.f2 n.f3 n.f4 = some ((ofL n).f0, (ofL n).f1, (ofL n).f2, ofE n) := by
  obtain ⟨a, s, b, m, v⟩ := n
  unfold pool_Of.f ofL ofE ofB
  simp only [pool_Of.j0, ByteArray.toList_eq]
  by_cases h1 : a = 10 <;> by_cases h2 : s.data.toList = [] <;> by_cases h3 : v = 0 <;> cases m <;> simp [h1, h2, h3]
theorem of_calls (n : Nd) (w : World) : Calls Try.prog 11 #[ndV n] w fun e w' => e = .returned (.tuple #[ltV (ofL n), .int .i64 (ofE n)]) ∧ Below w.heap.size w w' :=
  pool_Of.calls 1 n.f0 n.f1 n.f2 n.f3 n.f4 _ _ _ _ w (of_f n)
theorem wu64_wf (a : Int) : (Lit.int .u64 (IntKind.u64.wrap a)).wf = true := by
  simp only [IntKind.wrap, IntKind.bits, IntKind.signed, Lit.wf, IntKind.min, IntKind.max, Bool.and_eq_true, decide_eq_true_eq]
  simp
  omega
theorem of_ok (n : Nd) (h : ndOk n) : ltOk (ofL n) := by
  obtain ⟨h1, h2, h3⟩ := h
  have z : (⟨#[]⟩ : ByteArray).size ≤ maxLen := by decide
  unfold ofL
  split
  · split
    · split
      · exact ⟨z, by simp [Lit.wf, IntKind.min, IntKind.max, IntKind.signed, IntKind.bits], wu64_wf _⟩
      · exact ⟨z, by simp [Lit.wf, IntKind.min, IntKind.max, IntKind.signed, IntKind.bits], h3⟩
    · exact ⟨h1, h2, by simp [Lit.wf, IntKind.min, IntKind.max, IntKind.signed, IntKind.bits]⟩
  · exact ⟨z, by decide, by decide⟩
/-! ### store.put, whole -/
def stB (l : List Lt) (x : Lt) : Bool := decide (x ∈ l ∨ l.length < 64)
def stK (l : List Lt) (x : Lt) : Int := if x ∈ l then l.idxOf x else if l.length < 64 then l.length else 0
def stL (l : List Lt) (x : Lt) : List Lt := if x ∈ l then l else if l.length < 64 then l ++ [x] else l
theorem store_put (B b : Nat) (l : List Lt) (x : Lt) (w : World) (hBw : B ≤ w.heap.size) (h : PoolAt B b l w) (hk : ltOk x) :
    Calls Try.prog 15 #[.pointer (some ⟨b, 0, none⟩), ltV x, .int .i64 64] w fun e w' => e = .returned (.tuple #[.int .i64 (stK l x), .bool (stB l x)]) ∧ PoolAt B b (stL l x) w' ∧ Below B w w' ∧ Kept b w w' := by
  unfold stK stB stL
  by_cases hx : x ∈ l
  · rw [if_pos hx, if_pos hx, decide_eq_true (Or.inl hx)]
    refine (store_put_old B b l x 64 w hBw h hx hk).mono ?_
    rintro e w' ⟨rfl, hb⟩
    exact ⟨rfl, PoolAt_keep h hb, hb.mono hBw, Kept.below hb⟩
  · rw [if_neg hx, if_neg hx]
    by_cases hl : l.length < 64
    · rw [if_pos hl, if_pos hl, decide_eq_true (Or.inr hl)]
      exact store_put_new B b l x 64 w hBw h hx hk (by omega) (by decide)
    · rw [if_neg hl, if_neg hl, decide_eq_false (by rintro (h | h) <;> contradiction)]
      exact store_put_full B b l x 64 w hBw h hx hk (by omega)
/-! ### Pool.Put -/
def putE (l : List Lt) (n : Nd) : Int := if ofB n = true then (if stB l (ofL n) = true then 0 else 2) else 1
def putK (l : List Lt) (n : Nd) : Int := if ofB n = true then stK l (ofL n) else 0
def putL (l : List Lt) (n : Nd) : List Lt := if ofB n = true then stL l (ofL n) else l
theorem pool_put_nil (n : Nd) (w : World) : Calls Try.prog 9 #[.pointer none, ndV n] w fun e w' => e = .returned (.tuple #[.int .i64 0, .int .i64 1]) ∧ Below w.heap.size w w' := by
  unfold ndV
  go_enter Try.func9, Try.ntmps9
  go_wp2
  go_ret2
  exact ⟨rfl, (Below.refl _ _).alloc (Nat.le_refl _) _⟩
set_option maxHeartbeats 2000000 in
theorem pool_put_bad (B b : Nat) (l : List Lt) (n : Nd) (w : World) (hBw : B ≤ w.heap.size) (h : PoolAt B b l w) (hn : ofB n = false) :
    Calls Try.prog 9 #[.pointer (some ⟨b, 0, none⟩), ndV n] w fun e w' => e = .returned (.tuple #[.int .i64 0, .int .i64 1]) ∧ PoolAt B b l w' ∧ Below B w w' ∧ Kept b w w' := by
  have HP := Aside0.mk h
  clear h
  have hE : ofE n = 1 := by unfold ofE; rw [hn]; rfl
  have hcall := of_calls n
  rw [hE] at hcall
  have HC := Aside0.mk hcall
  clear hcall hE hn
  unfold ndV at HC ⊢
  unfold ltV at HC
  generalize (ofL n).f0 = x0, (ofL n).f1 = x1, (ofL n).f2 = x2 at HC
  go_enter Try.func9, Try.ntmps9
  go_wp2_with (go_at_call 11; refine (HC.out _).mono ?_; rintro e w1 ⟨rfl, hb1⟩)
  have hb0 := (below_alloc (Below.refl w.heap.size w) (.cells #[.int .i64 n.f0, .string n.f1, .int .i64 n.f2, .bool n.f3, .int .u64 n.f4] 30)).trans (hb1.mono (by simp))
  go_ret2
  exact ⟨rfl, PoolAt_keep HP.out (below_alloc hb0 _), (below_alloc hb0 _).mono hBw, Kept.below (below_alloc hb0 _)⟩
set_option maxHeartbeats 2000000 in
theorem pool_put_good (B b : Nat) (l : List Lt) (n : Nd) (w : World) (hBw : B ≤ w.heap.size) (h : PoolAt B b l w) (hok : ndOk n) (hn : ofB n = true) :
    Calls Try.prog 9 #[.pointer (some ⟨b, 0, none⟩), ndV n] w fun e w' => e = .returned (.tuple #[.int .i64 (stK l (ofL n)), .int .i64 (if stB l (ofL n) = true then 0 else 2)]) ∧ PoolAt B b (stL l (ofL n)) w' ∧ Below B w w' ∧ Kept b w w' := by
  have HP := Aside0.mk h
  have hlok := of_ok n hok
  clear h hok
  have hE : ofE n = 0 := by unfold ofE; rw [hn]; rfl
  have hcall := of_calls n
  rw [hE] at hcall
  have HC := Aside0.mk hcall
  clear hcall hE hn
  unfold ndV at HC ⊢
  generalize hx : ofL n = x at *
  clear hx
  have HX := Aside0.mk (store_put B b l x)
  unfold ltV at HC HX
  have HS : stK l x = (if stB l x = true then stK l x else 0) := by
    unfold stB stK
    by_cases h1 : x ∈ l <;> by_cases h2 : l.length < 64 <;> simp [h1, h2]
  replace HS := Aside0.mk HS
  generalize stB l x = ok at *
  generalize stK l x = k at *
  generalize stL l x = l' at *
  go_enter Try.func9, Try.ntmps9
  go_wp2_with (go_at_call 11; refine (HC.out _).mono ?_; rintro e w1 ⟨rfl, hb1⟩)
  have hb0 := (below_alloc (Below.refl w.heap.size w) (.cells #[.int .i64 n.f0, .string n.f1, .int .i64 n.f2, .bool n.f3, .int .u64 n.f4] 30)).trans (hb1.mono (by simp))
  have HB := Aside0.mk hb0
  have hsz := hb1.size
  clear hb0 hb1
  have HP2 : Aside0 (PoolAt B b l ((w1.alloc (.cells #[.string x.f0, .int .i64 x.f1, .int .u64 x.f2] 34)).drew)) := ⟨PoolAt_keep HP.out (below_drew (below_alloc HB.out _))⟩
  have HB2 : Aside0 (Below B w ((w1.alloc (.cells #[.string x.f0, .int .i64 x.f1, .int .u64 x.f2] 34)).drew)) := ⟨(below_drew (below_alloc HB.out _)).mono hBw⟩
  have HK2 : Aside0 (Kept b w ((w1.alloc (.cells #[.string x.f0, .int .i64 x.f1, .int .u64 x.f2] 34)).drew)) := ⟨Kept.below (below_drew (below_alloc HB.out _))⟩
  have hBw2 : B ≤ w1.heap.size + 1 := by have := HB.out.size; omega
  have HLK := Aside0.mk hlok
  clear hsz hlok hBw
  cases ok
  all_goals
    go_region_with (go_at_call 15; refine (HX.out _ ?_ HP2.out HLK.out).mono ?_; (simpa using hBw2); rintro e w2 ⟨rfl, hq, hq2, hq3⟩; have HQ := Aside0.mk hq; have HQ2 := Aside0.mk hq2; have HQ3 := Aside0.mk (HK2.out.trans hq3); clear hq hq2 hq3)
    go_wp2
    go_ret2
    refine ⟨?_, HQ.out, HB2.out.trans HQ2.out, HQ3.out⟩
  · rw [HS.out]; rfl
  · rfl
/-- Pool.Put, whole. -/
theorem pool_put (B b : Nat) (l : List Lt) (n : Nd) (w : World) (hBw : B ≤ w.heap.size) (h : PoolAt B b l w) (hok : ndOk n) :
    Calls Try.prog 9 #[.pointer (some ⟨b, 0, none⟩), ndV n] w fun e w' => e = .returned (.tuple #[.int .i64 (putK l n), .int .i64 (putE l n)]) ∧ PoolAt B b (putL l n) w' ∧ Below B w w' ∧ Kept b w w' := by
  unfold putK putE putL
  cases hn : ofB n
  · exact pool_put_bad B b l n w hBw h hn
  · exact pool_put_good B b l n w hBw h hok hn
theorem pool_take_nil (w : World) : Calls Try.prog 12 #[.pointer none] w fun e w' => e = .returned (.slice none 0 0) ∧ w' = w := by
  go_enter Try.func12, Try.ntmps12
  go_wp2
  go_ret
  exact ⟨rfl, rfl⟩
theorem pool_take (B b : Nat) (l : List Lt) (w : World) (hBw : B ≤ w.heap.size) (h : PoolAt B b l w) :
    Calls Try.prog 12 #[.pointer (some ⟨b, 0, none⟩)] w fun e w' => ∃ A c, e = .returned (.slice A l.length c) ∧ ltKd.R 34 w' B (fun k => k ≠ b) (.slice A l.length c) l ∧ PoolAt B b [] w' ∧ Below B w w' ∧ KeptAll b w w' ∧ PoolNil B b w' := by
  go_enter Try.func12, Try.ntmps12
  go_wp2_with (go_at_call 16; refine (store_take B b l _ hBw h).mono ?_; rintro e w1 ⟨v, rfl, hR, hP, hB, hK, hN⟩)
  obtain ⟨A, c, rfl⟩ := Kd.R_slice hR
  have HR := Aside0.mk hR
  have HP := Aside0.mk hP
  have HB := Aside0.mk hB
  have HK := Aside0.mk hK
  have HN := Aside0.mk hN
  clear hR hP hB hK hN
  go_wp2
  go_ret
  exact ⟨A, c, rfl, HR.out, HP.out, HB.out, HK.out, HN.out⟩
end Go.Proofs.Ytoglfjeggfbngaa.P
