/- A region whose order is drawn, by an invariant on which of its operations have come up. -/
import Derived.Test.YtemenenkefcebaaDoorKb
import Derived.Orders
import Derived.OrdersHeld
import Derived.Deep.RegionHeld3
namespace Go.Proofs.YtemenenkefcebaaDoor.P
open Go.RowKit Go.Proofs.YtemenenkefcebaaDoorW.PrintWords Go.Proofs.YtemenenkefcebaaDoorW.PrintLast Go.Proofs.YtemenenkefcebaaDoorW.PrintMore
set_option linter.unusedSimpArgs false
set_option linter.unusedVariables false
section
variable {P : Program} {md : Region.Mode} {ops : Array Oper} {Q : Exit → Act → World → Prop}
/-- i has come up as well. -/
def upd (f : Nat → Bool) (i : Nat) : Nat → Bool := fun k => if k = i then true else f k
theorem upd_same (f : Nat → Bool) (i : Nat) : upd f i i = true := if_pos rfl
theorem upd_ne (f : Nat → Bool) {i k : Nat} (h : k ≠ i) : upd f i k = f k := if_neg h
def depsLow (ops : Array Oper) : Bool := (List.range ops.size).all fun i => ((ops[i]?).map (·.after.all fun e => decide (e.on < i))).getD true
def unl (l : List Bool) : Nat := (l.filter (fun b => !b)).length
theorem unl_set : ∀ (l : List Bool) (i : Nat), l[i]? = some false → unl (l.set i true) + 1 = unl l
 | [], _, h => by cases h
 | b :: l, 0, h => by
  obtain rfl : b = false := by simpa using h
  simp [unl]
 | b :: l, i + 1, h => by
  have ih := unl_set l i (by simpa using h)
  unfold unl at ih ⊢
  cases b <;> simp [List.filter_cons] <;> omega
theorem all_listed (hdep : depsLow ops = true) {l : Array Bool} (hl : l.size = ops.size) (hr : Region.ready md ops l = []) : ∀ n i, i < n → i < ops.size → l.getD i false = true
 | 0, i, h, _ => by omega
 | n + 1, i, hi, hs => by
  cases hc : l.getD i false with
  | true => rfl
  | false =>
   exfalso
   have hmem : i ∈ Region.ready md ops l := by
    refine mem_ready.2 ⟨?_, ops[i], by rw [Array.getElem?_eq_getElem hs], fun e he hb => ?_⟩
    ·rw [Array.getD_eq_getD_getElem?, Array.getElem?_eq_getElem (by omega)] at hc ⊢
     exact hc
    ·have hd := List.all_eq_true.1 hdep i (List.mem_range.2 hs)
     rw [Array.getElem?_eq_getElem hs] at hd
     have := of_decide_eq_true (Array.all_eq_true'.1 hd e he)
     exact all_listed hdep hl hr n e.on (by omega) (by omega)
   rw [hr] at hmem
   cases hmem
theorem wpAny_inv (Inv : (Nat → Bool) → Act → World → Prop) (hdep : depsLow ops = true)
  (step : ∀ f a w i o, Inv f a w → ops[i]? = some o → f i = false → (∀ e ∈ o.after, Region.binds md e = true → f e.on = true) → wpOp P ops Q i (fun a' w' => Inv (upd f i) a' w') a w)
  (done : ∀ f a w, Inv f a w → (∀ i, i < ops.size → f i = true) → Q .normal a w) :
  ∀ (fuel : Nat) (l : Array Bool) (a : Act) (w : World), l.size = ops.size → unl l.toList ≤ fuel → Inv (fun k => l.getD k false) a w → wpAny P md ops Q fuel l a w
 | 0, l, a, w, hl, hf, hI => by
  have h0 : ∀ i, i < ops.size → l.getD i false = true := fun i hi => by
   cases hc : l.getD i false with
   | true => rfl
   | false =>
    exfalso
    rw [Array.getD_eq_getD_getElem?, Array.getElem?_eq_getElem (by omega)] at hc
    have := unl_set l.toList i (by rw [Array.getElem?_toList, Array.getElem?_eq_getElem (by omega)]; exact congrArg some hc)
    omega
  refine ⟨?_, done _ a w hI h0⟩
  cases hr : Region.ready md ops l with
  | nil => rfl
  | cons i t =>
   exfalso
   obtain ⟨h1, o, ho, _⟩ := mem_ready.1 (show i ∈ Region.ready md ops l by rw [hr]; exact List.mem_cons_self)
   have hi : i < ops.size := by
    rcases Nat.lt_or_ge i ops.size with h | h
    ·exact h
    ·rw [Array.getElem?_eq_none h] at ho; cases ho
   have h2 := h0 i hi
   rw [Array.getD_eq_getD_getElem?, Array.getElem?_eq_getElem (by omega)] at h1 h2
   rw [Option.getD_some] at h1 h2
   rw [h1] at h2
   cases h2
 | fuel + 1, l, a, w, hl, hf, hI => by
  refine ⟨fun hr => done _ a w hI fun i hi => all_listed hdep hl hr _ i (Nat.lt_succ_self i) hi, fun i hr => ?_⟩
  obtain ⟨h1, o, ho, h3⟩ := mem_ready.1 hr
  have hi : i < ops.size := by
   rcases Nat.lt_or_ge i ops.size with h | h
   ·exact h
   ·rw [Array.getElem?_eq_none h] at ho; cases ho
  have h1' : l[i]? = some false := by
   rw [Array.getD_eq_getD_getElem?, Array.getElem?_eq_getElem (by omega)] at h1
   rw [Array.getElem?_eq_getElem (by omega)]
   exact congrArg some h1
  have hfi : (fun k => l.getD k false) i = false := by
   show l.getD i false = false
   rw [Array.getD_eq_getD_getElem?, h1']; rfl
  have e : (fun k => (l.setIfInBounds i true).getD k false) = upd (fun k => l.getD k false) i := by
   funext k
   unfold upd
   by_cases hk : k = i
   ·subst hk
    rw [if_pos rfl, Array.getD_eq_getD_getElem?, Array.getElem?_setIfInBounds_self_of_lt (by omega)]
    rfl
   ·rw [if_neg hk, Array.getD_eq_getD_getElem?, Array.getElem?_setIfInBounds_ne (Ne.symm hk), ← Array.getD_eq_getD_getElem?]
  refine wpOp_mono (fun a' w' h => wpAny_inv Inv hdep step done fuel _ a' w' (by simpa using hl) ?_ (by rw [e]; exact h)) (step _ a w i o hI ho hfi h3)
  have := unl_set l.toList i (by rw [Array.getElem?_toList]; exact h1')
  rw [Array.toList_setIfInBounds]
  omega
theorem unl_new (n : Nat) : unl (Array.replicate n false).toList ≤ n := by
 unfold unl
 refine Nat.le_trans (List.length_filter_le _ _) ?_
 simp
theorem wp_region_inv {id : Nat} {a : Act} {w : World} (hm : P.follows .mixedOrders = true) (hdep : depsLow ops = true) (Inv : Act → World → (Nat → Bool) → Act → World → Prop)
  (begin_ : Inv a w (fun _ => false) a w.drew)
  (step : ∀ f a' w' i o, Inv a w f a' w' → ops[i]? = some o → f i = false → (∀ e ∈ o.after, Region.binds .any e = true → f e.on = true) → wpOp P ops Q i (fun a'' w'' => Inv a w (upd f i) a'' w'') a' w')
  (done : ∀ f a' w', Inv a w f a' w' → (∀ i, i < ops.size → f i = true) → Q .normal a' w') : (Code.region id ops true).wp P Q a w := by
 refine wp_region_any hm (wpAny_inv (Inv a w) hdep step done _ _ _ _ (by simp) (unl_new _) ?_)
 have e : (fun k => (Array.replicate ops.size false).getD k false) = fun _ => false := by
  funext k
  rw [Array.getD_eq_getD_getElem?, Array.getElem?_replicate]
  split <;> rfl
 rw [e]
 exact begin_
/-- A slot behind a put. -/
theorem put_getD (a : Act) (d j : Nat) (v : Value) (hd : d < a.tmps.size) : (a.put (some d) v).tmps.getD j undef = if j = d then v else a.tmps.getD j undef := by
 show (a.tmps.setIfInBounds d v).getD j undef = _
 rw [Array.getD_eq_getD_getElem?, Array.getElem?_setIfInBounds, Array.getD_eq_getD_getElem?]
 by_cases h : d = j
 ·subst h
  rw [if_pos rfl, if_pos hd, if_pos rfl]
  rfl
 ·rw [if_neg h, if_neg (Ne.symm h)]
theorem put_size (a : Act) (d : Nat) (v : Value) : (a.put (some d) v).tmps.size = a.tmps.size := by
 show (a.tmps.setIfInBounds d v).size = _
 simp
theorem put_defers (a : Act) (d : Nat) (v : Value) : (a.put (some d) v).defers = a.defers := rfl
/-- An operation whose guard wants it. -/
theorem wpOp_at {i : Nat} {o : Oper} {a : Act} {w : World} {K : Act → World → Prop} (ho : ops[i]? = some o) (hw : o.guard = none) (h : o.wp P a w K Q) : wpOp P ops Q i K a w := by
 unfold wpOp
 rw [ho]
 simp only [Region.wanted, hw]
 exact Or.inl h
/-- An Act by its slots. -/
theorem act_slots {a b : Act} (hs : a.tmps.size = b.tmps.size) (hd : a.defers = b.defers) (D : List Nat) (h : ∀ j, j ∉ D → a.tmps.getD j undef = b.tmps.getD j undef) :
  a = D.foldl (fun c d => c.put (some d) (a.tmps.getD d undef)) b := by
 suffices H : ∀ (D : List Nat) (b : Act), a.tmps.size = b.tmps.size → a.defers = b.defers → (∀ j, j ∉ D → a.tmps.getD j undef = b.tmps.getD j undef) → a = D.foldl (fun c d => c.put (some d) (a.tmps.getD d undef)) b from H D b hs hd h
 intro D
 induction D with
 | nil =>
  intro b hs hd h
  have e : a.tmps = b.tmps := by
   apply Array.ext hs
   intro i h1 h2
   have := h i (by simp)
   rwa [Array.getD_eq_getD_getElem?, Array.getD_eq_getD_getElem?, Array.getElem?_eq_getElem h1, Array.getElem?_eq_getElem h2] at this
  cases a; cases b
  simp only at e hd
  rw [e, hd]
  rfl
 | cons d D ih =>
  intro b hs hd h
  rw [List.foldl_cons]
  refine ih _ (by rw [put_size]; exact hs) hd (fun j hj => ?_)
  by_cases hjd : j = d
  ·subst hjd
   by_cases hlt : j < b.tmps.size
   ·rw [put_getD _ _ _ _ hlt, if_pos rfl]
   ·rw [Array.getD_eq_getD_getElem?, Array.getElem?_eq_none (by omega), Array.getD_eq_getD_getElem?, Array.getElem?_eq_none (by rw [put_size]; omega)]
  ·have h2 : (b.put (some d) (a.tmps.getD d undef)).tmps.getD j undef = b.tmps.getD j undef := by
    by_cases hlt : d < b.tmps.size
    ·rw [put_getD _ _ _ _ hlt, if_neg hjd]
    ·show (b.tmps.setIfInBounds d _).getD j undef = _
     rw [Array.setIfInBounds_eq_of_size_le (by omega)]
   rw [h2]
   exact h j (by simp [hjd, hj])
end
end Go.Proofs.YtemenenkefcebaaDoor.P
