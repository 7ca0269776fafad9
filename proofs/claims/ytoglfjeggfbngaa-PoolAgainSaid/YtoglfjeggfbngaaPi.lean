/- PoolAgain, walked by hand. -/
import Derived.Test.YtoglfjeggfbngaaPg
namespace Go.Proofs.Ytoglfjeggfbngaa.P
open Go.RowKit Go.Maps Go.MapKept Go.ChangeMaps Go.ChangeShapes Go.WideShapes Go.Proofs.YtoglfjeggfbngaaW.PrintWords Go.Proofs.YtoglfjeggfbngaaW.PrintLast Go.Proofs.YtoglfjeggfbngaaW.PrintMore
set_option linter.unusedVariables false
set_option linter.unusedSimpArgs false
/-! ### the plain law -/
def fin (s : List Lt) (l : List Nd) : List Lt := l.foldl putL s
def atV (s : List Lt) (n : Nd) : Int := if putE s n = 0 then putK s n else -1
def atsF : List Lt → List Nd → List Int
  | _, [] => []
  | s, n :: r => atV s n :: atsF (putL s n) r
theorem fin_snoc (s : List Lt) (l : List Nd) (n : Nd) : fin s (l ++ [n]) = putL (fin s l) n := by simp [fin, List.foldl_append]
theorem atsF_snoc (l : List Nd) (n : Nd) : ∀ s, atsF s (l ++ [n]) = atsF s l ++ [atV (fin s l) n] := by
  induction l with
  | nil => intro s; rfl
  | cons m r ih =>
    intro s
    rw [List.cons_append, atsF, ih]
    rfl
theorem atsF_len (l : List Nd) : ∀ s, (atsF s l).length = l.length := by
  induction l with
  | nil => intro s; rfl
  | cons m r ih => intro s; rw [atsF, List.length_cons, ih, List.length_cons]
theorem atsF_get (l : List Nd) : ∀ s (k : Nat) (n : Nd), l[k]? = some n → (atsF s l)[k]? = some (atV (fin s (l.take k)) n) := by
  induction l with
  | nil => intro s k n h; simp at h
  | cons m r ih =>
    intro s k n h
    cases k with
    | zero =>
      simp at h
      subst h
      rfl
    | succ k =>
      rw [List.getElem?_cons_succ] at h
      rw [atsF, List.getElem?_cons_succ, ih _ _ _ h, List.take_succ_cons]
      rfl
theorem putL_len (s : List Lt) (n : Nd) (h : s.length ≤ 64) : (putL s n).length ≤ 64 := by
  unfold putL stL
  split
  · split
    · exact h
    · split
      · simp; omega
      · exact h
  · exact h
theorem fin_len (l : List Nd) : ∀ s, s.length ≤ 64 → (fin s l).length ≤ 64 := by
  induction l with
  | nil => intro s h; exact h
  | cons m r ih => intro s h; exact ih _ (putL_len s m h)
theorem putK_ge (s : List Lt) (n : Nd) : 0 ≤ putK s n := by
  unfold putK stK
  split
  · split
    · omega
    · split <;> omega
  · omega
theorem take_next (l : List Nd) (x : Int) (n : Nd) (h0 : 0 ≤ x) (h : l[x.toNat]? = some n) : l.take (x + 1).toNat = l.take x.toNat ++ [n] := by
  rw [show (x + 1).toNat = x.toNat + 1 by omega, List.take_add_one, h]
  rfl
/-! ### the arguments -/
def zN : Nd := ⟨0, ⟨#[]⟩, 0, false, 0⟩
abbrev k30 : Kd Nd := Kd.iso (Kd.pair (Kd.int .i64) (Kd.pair Kd.string (Kd.pair (Kd.int .i64) (Kd.pair Kd.bool (Kd.int .u64))))) (fun n : Nd => (n.f0, n.f1, n.f2, n.f3, n.f4))
abbrev S30 := Nd
theorem at_nd {w : World} {A : Option Addr} {n : Nat} {xs : List Nd} (h : k30.C w A n xs) (i : Int) (h0 : 0 ≤ i) (h1 : i < n) (y : Nd) (hy : xs[i.toNat]? = some y) :
    ∃ ad : Addr, A = some ad ∧ w.cell? (ad.add (i.toNat * 5)) = some (.int .i64 y.f0) ∧ w.cell? ⟨(ad.add (i.toNat * 5)).block, (ad.add (i.toNat * 5)).off + 1, none⟩ = some (.string y.f1) ∧ w.cell? ⟨(ad.add (i.toNat * 5)).block, (ad.add (i.toNat * 5)).off + 2, none⟩ = some (.int .i64 y.f2) ∧
      w.cell? ⟨(ad.add (i.toNat * 5)).block, (ad.add (i.toNat * 5)).off + 3, none⟩ = some (.bool y.f3) ∧ w.cell? ⟨(ad.add (i.toNat * 5)).block, (ad.add (i.toNat * 5)).off + 4, none⟩ = some (.int .u64 y.f4) := by
  obtain ⟨ad, c, e, _, ⟨c0, r0, rfl, h2, c1, r1, rfl, h3, c2, r2, rfl, h4, c3, c4, rfl, h5, h6⟩, hc⟩ := Kd.C_get h zN i h0 h1
  have hd : xs.getD i.toNat zN = y := by simp [List.getD_eq_getElem?_getD, hy]
  rw [hd] at h2 h3 h4 h5 h6
  obtain rfl : c0 = _ := h2
  obtain rfl : c1 = _ := h3
  obtain rfl : c2 = _ := h4
  obtain rfl : c3 = _ := h5
  obtain rfl : c4 = _ := h6
  exact ⟨ad, e, hc 0 _ rfl, by rw [← add_field _ _ 1 (by omega)]; exact hc 1 _ rfl, by rw [← add_field _ _ 2 (by omega)]; exact hc 2 _ rfl, by rw [← add_field _ _ 3 (by omega)]; exact hc 3 _ rfl, by rw [← add_field _ _ 4 (by omega)]; exact hc 4 _ rfl⟩
/-! ### a row of whole numbers beside a pool -/
theorem R_keptI {w w1 : World} {B b : Nat} {ok : Nat → Prop} {v : Value} {xs : List Int} {cs : Array Value} (h : (Kd.int .i64).R 3 w B ok v xs) (hk : Kept b w w1) (hb : w.heap[b]? = some (.cells cs 51 (0, 0))) : (Kd.int .i64).R 3 w1 B ok v xs :=
  Kd.R_mono (Kd.R_move (Kd.R_bound h) (fun k hk' => by
    obtain ⟨_, _, _, q, hq, cells, hc⟩ := hk'
    have hq : q = 3 := by simpa [Kd.int, Kd.scalar] using hq
    subst hq
    rw [hc]
    refine hk k _ _ _ hc (fun e => ?_) (by decide)
    rw [e, hb] at hc
    cases hc)) (fun _ h => h.1)
theorem PoolAt_blk {B b : Nat} {l : List Lt} {w : World} (h : PoolAt B b l w) : ∃ cs, w.heap[b]? = some (.cells cs 51 (0, 0)) := by
  obtain ⟨_, _, v, mp, hb, _⟩ := h
  exact ⟨_, hb⟩
theorem PoolAt_grown {B b : Nat} {l : List Lt} {w w1 : World} (h : PoolAt B b l w) {row : Option Nat} (hg : w.grownBy w1 row) (hr : ∀ k, row = some k → ∃ cells, w.heap[k]? = some (.cells cells 3 (0, 0))) : PoolAt B b l w1 := by
  obtain ⟨hB, hok, v, mp, hb, hR, hM⟩ := h
  refine ⟨hB, hok, v, mp, blk_grown hb hg (fun e => ?_), Kd.R_mono (Kd.R_grown (row := row) (Kd.R_bound hR) hg (fun k hk e => ?_)) (fun _ h => h.1), PMap_grown hM hg (fun k hk e => ?_)⟩
  · obtain ⟨cells, hc⟩ := hr b e.symm
    rw [hb] at hc
    cases hc
  · obtain ⟨cells, hc⟩ := hr k e.symm
    obtain ⟨_, _, _, q, hq, cells', hc'⟩ := hk
    rw [hc] at hc'
    cases hc'
    revert hq
    decide
  · obtain ⟨cells, hc⟩ := hr k e
    exact PMap_ne (b := k) hM hc k hk rfl
theorem PoolNil.at {B b : Nat} {w : World} (h : PoolNil B b w) (hB : B ≤ b) : PoolAt B b [] w := by
  obtain ⟨mp, hb, hM⟩ := h
  exact ⟨hB, by simp, _, mp, hb, Kd.R_nil _ _ _ _ _, hM⟩
theorem PoolNil.set {B b g i : Nat} {w : World} {cs : Array Value} (h : PoolNil B b w) (hg : w.heap[g]? = some (.cells cs 34 (0, 0))) (u : Value) : PoolNil B b (w.setCell ⟨g, i, none⟩ u) := by
  obtain ⟨mp, hb, hM⟩ := h
  refine ⟨mp, (Below.heap_setCell w ⟨g, i, none⟩ u b (fun e => ?_)).trans hb, PMap_grown hM (grown_set w g i u) (fun k hk e => ?_)⟩
  · have e : b = g := e
    rw [e, hg] at hb
    cases hb
  · cases e
    exact PMap_ne (b := g) hM hg g hk rfl
theorem R_setI {w : World} {B g i : Nat} {ok : Nat → Prop} {v : Value} {xs : List Int} {cs : Array Value} (h : (Kd.int .i64).R 3 w B ok v xs) (hg : w.heap[g]? = some (.cells cs 34 (0, 0))) (u : Value) : (Kd.int .i64).R 3 (w.setCell ⟨g, i, none⟩ u) B ok v xs :=
  Kd.R_set h hg (fun q hq => by have : q = 3 := by simpa [Kd.int, Kd.scalar] using hq
                                rw [this]; decide) i u
theorem R_block {w : World} {B : Nat} {ok : Nat → Prop} {v : Value} {xs : List Lt} (h : ltKd.R 34 w B ok v xs) (hn : 0 < xs.length) : ∃ g cells cap, v = .slice (some ⟨g, 0, none⟩) xs.length cap ∧ B ≤ g ∧ w.heap[g]? = some (.cells cells 34 (0, 0)) ∧ xs.length * 3 ≤ cells.size := by
  obtain ⟨inner, ho⟩ := Kd.R_own h
  rcases ho.2 with ⟨_, hz⟩ | ⟨g, cap, cur, rfl, hg, hh, h1, h2, h3, h4⟩
  · omega
  · exact ⟨g, cur, cap, rfl, hg, hh, by rw [h3]; exact Nat.mul_le_mul_right 3 h1⟩
end Go.Proofs.Ytoglfjeggfbngaa.P
