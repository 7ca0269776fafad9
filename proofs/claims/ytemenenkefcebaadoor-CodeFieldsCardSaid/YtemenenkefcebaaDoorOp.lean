/- What a row's reader reads, as the print's kinds: numbers, bools, strings, structs of these, slices of all of them. -/
import Derived.Test.YtemenenkefcebaaDoorWMore
import Derived.Deep.Slices
import Derived.Deep.Fields
import Derived.ChangeSame
import Derived.SizedLaws
import Derived.WideShapes
namespace Go.Proofs.YtemenenkefcebaaDoor.Op
open Go.RowKit Go.Deep Go.ChangeShapes Go.WideShapes Go.Proofs.YtemenenkefcebaaDoorW.PrintWords Go.Proofs.YtemenenkefcebaaDoorW.PrintLast Go.Proofs.YtemenenkefcebaaDoorW.PrintMore
set_option linter.unusedVariables false
set_option linter.unusedSimpArgs false

def Opens {α : Type} (P : Program) (d : Kd α) (t : TypeId) (ok : α → Prop) : Prop :=
 ∀ (H : Type) (enc : TypeId × Value → H) (w : World) (base : Nat) (spare : Nat → Bool) (held : Bool) (fuel : Nat) (cs : List Value) (x : DataW H × List MemPlace),
  DataW.trod enc P w base spare held fuel t cs = some x → ∃ a, d.K w a cs ∧ ok a
/-- The fields from 'off' on. -/
def OpensF {α : Type} (P : Program) (fs : List Field) (off : Nat) (d : Kd α) (ok : α → Prop) : Prop :=
 ∀ (H : Type) (enc : TypeId × Value → H) (w : World) (base : Nat) (spare : Nat → Bool) (held : Bool) (n : Nat) (cs : List Value), cs.length = off + d.sz →
  (∀ (i : Nat) (f : Field), fs[i]? = some f → ∃ y, DataW.trod enc P w base spare held n f.type ((cs.drop f.offset).take (P.cellsOf f.type)) = some y) → ∃ a, d.K w a (cs.drop off) ∧ ok a
theorem opens_int {P : Program} {t : TypeId} {k : IntKind} (ht : P.underlying t = some (.int k)) : Opens P (Kd.int k) t (fun n => (Lit.int k n).wf = true) := by
 intro H enc w base spare held fuel cs x h
 obtain ⟨n, rfl, _, hw⟩ := DataW.trod_int ht h
 exact ⟨n, rfl, hw⟩
theorem opens_bool {P : Program} {t : TypeId} (ht : P.underlying t = some .bool) : Opens P Kd.bool t (fun _ => True) := by
 intro H enc w base spare held fuel cs x h
 obtain ⟨n, rfl, _⟩ := DataW.trod_bool ht h
 exact ⟨n, rfl, trivial⟩
theorem opens_string {P : Program} {t : TypeId} (ht : P.underlying t = some .string) : Opens P Kd.string t (fun s => s.size ≤ 9223372036854775807) := by
 intro H enc w base spare held fuel cs x h
 obtain ⟨n, rfl, _, hs⟩ := DataW.trod_string ht h
 exact ⟨n, rfl, hs⟩
theorem opensF_one {α : Type} {P : Program} {f : Field} {off : Nat} {d : Kd α} {ok : α → Prop} (h : Opens P d f.type ok) (ho : f.offset = off) (hc : P.cellsOf f.type = d.sz) : OpensF P [f] off d ok := by
 intro H enc w base spare held n cs hl hf
 obtain ⟨y, hy⟩ := hf 0 f rfl
 rw [ho, hc, List.take_of_length_le (by rw [List.length_drop]; omega)] at hy
 exact h H enc w base spare held n _ y hy
theorem opensF_cons {α β : Type} {P : Program} {f : Field} {fs : List Field} {off : Nat} {a : Kd α} {b : Kd β} {oka : α → Prop} {okb : β → Prop} (h : Opens P a f.type oka) (hr : OpensF P fs (off + a.sz) b okb) (ho : f.offset = off) (hc : P.cellsOf f.type = a.sz) :
  OpensF P (f :: fs) off (Kd.pair a b) (fun x => oka x.1 ∧ okb x.2) := by
 intro H enc w base spare held n cs hl hf
 have hl' : cs.length = off + (a.sz + b.sz) := hl
 obtain ⟨y, hy⟩ := hf 0 f rfl
 rw [ho, hc] at hy
 obtain ⟨x1, hx1, ho1⟩ := h H enc w base spare held n _ y hy
 obtain ⟨x2, hx2, ho2⟩ := hr H enc w base spare held n cs (by omega) (fun i g hg => hf (i + 1) g hg)
 refine ⟨(x1, x2), ⟨_, _, ?_, hx1, hx2⟩, ho1, ho2⟩
 rw [← List.drop_drop]
 exact (List.take_append_drop a.sz (cs.drop off)).symm
theorem opens_struct {α : Type} {P : Program} {t : TypeId} {fs : Array Field} {d : Kd α} {ok : α → Prop} (ht : P.underlying t = some (.struct fs)) (hf : OpensF P fs.toList 0 d ok) (hc : P.cellsOf t = d.sz) : Opens P d t ok := by
 intro H enc w base spare held fuel cs x h
 obtain ⟨xs, n, _, _, hlen, hxl, hg⟩ := DataW.trod_struct ht h
 have := hf H enc w base spare held n cs (by omega) (fun i f hi => by
  have hfi : fs[i]? = some f := by rwa [Array.getElem?_toList] at hi
  have hlt : i < fs.size := (Array.getElem?_eq_some_iff.1 hfi).1
  have := hg i f hfi
  rw [List.getElem?_eq_getElem (by omega)] at this
  exact ⟨_, this⟩)
 rwa [List.drop_zero] at this
theorem opens_iso {α β : Type} {P : Program} {t : TypeId} {d : Kd α} {ok : α → Prop} (f : β → α) (g : α → β) (hg : ∀ y, f (g y) = y) (h : Opens P d t ok) : Opens P (Kd.iso d f) t (fun x => ok (f x)) := by
 intro H enc w base spare held fuel cs x hx
 obtain ⟨a, ha, hok⟩ := h H enc w base spare held fuel cs x hx
 refine ⟨g a, ?_, by show ok (f (g a)); rw [hg]; exact hok⟩
 show d.K w (f (g a)) cs
 rw [hg]
 exact ha
theorem opens_imp {α : Type} {P : Program} {d : Kd α} {t : TypeId} {ok ok' : α → Prop} (h : Opens P d t ok) (hi : ∀ a, ok a → ok' a) : Opens P d t ok' := by
 intro H enc w base spare held fuel cs x hx
 obtain ⟨a, ha, hok⟩ := h H enc w base spare held fuel cs x hx
 exact ⟨a, ha, hi a hok⟩
theorem choose_list {α : Type} (n : Nat) (p : Nat → α → Prop) (h : ∀ i, i < n → ∃ a, p i a) : ∃ xs : List α, xs.length = n ∧ ∀ i a, xs[i]? = some a → p i a := by
 induction n with
 | zero => exact ⟨[], rfl, fun i a hi => by simp at hi⟩
 | succ n ih =>
  obtain ⟨xs, hl, hp⟩ := ih (fun i hi => h i (by omega))
  obtain ⟨a, ha⟩ := h n (by omega)
  refine ⟨xs ++ [a], by simp [hl], fun i b hi => ?_⟩
  by_cases hlt : i < xs.length
  ·rw [List.getElem?_append_left hlt] at hi
   exact hp i b hi
  ·rw [List.getElem?_append_right (by omega)] at hi
   have h0 : i - xs.length = 0 := by
    by_cases h0 : i - xs.length = 0
    ·exact h0
    ·rw [List.getElem?_eq_none (by simp; omega)] at hi; cases hi
   rw [h0] at hi
   simp at hi
   subst hi
   obtain rfl : i = n := by omega
   exact ha
/-- A slice that came in, nil or not. -/
theorem opens_row {α : Type} {P : Program} {d : Kd α} {t e : TypeId} {ok : α → Prop} (ht : P.underlying t = some (.slice e)) (he : Opens P d e ok) (hc : P.cellsOf e = d.sz) {H : Type} {enc : TypeId × Value → H} {w : World} {base : Nat} {spare : Nat → Bool} {held : Bool}
  {A : Option Addr} {len cap : Nat} {dt : DataW H} {ps : List MemPlace} (h : DataW.Trod enc P w base spare held t (.slice A len cap) dt ps) :
  ∃ xs : List α, xs.length = len ∧ d.C w A len xs ∧ len ≤ cap ∧ cap ≤ 9223372036854775807 ∧ ∀ x ∈ xs, ok x := by
 obtain ⟨fuel, hf⟩ := h
 rcases open_slice ht hf with ⟨hcs, _⟩ | ⟨a, l, c, m, n, D, Pl, hcs, hb, hl, hm, hmm, hx, hi⟩
 ·simp [Value.cells] at hcs
  obtain ⟨rfl, rfl, rfl⟩ := hcs
  exact ⟨[], rfl, ⟨rfl, by omega, fun h0 => by omega⟩, by omega, by omega, fun x hx => by simp at hx⟩
 ·simp [Value.cells] at hcs
  obtain ⟨rfl, rfl, rfl⟩ := hcs
  have hlm : len ≤ m := by rw [hmm]; split <;> omega
  have hm' : cap ≤ 9223372036854775807 := hm
  obtain ⟨xs, hxl, hxs⟩ := choose_list len (fun i x => ∃ cs', w.cells? base (a.add (i * P.cellsOf e)) (P.cellsOf e) = some cs' ∧ d.K w x cs' ∧ ok x) (fun i hil => by
   obtain ⟨cs', hc1, ht1⟩ := hi i (by omega)
   obtain ⟨x, hk, hok⟩ := he H enc w base spare held n cs' _ ht1
   exact ⟨x, cs', hc1, hk, hok⟩)
  refine ⟨xs, hxl, ⟨hxl, by omega, fun h0 => ⟨a, rfl, fun j p hp => ?_⟩⟩, hl, hm', fun x hx => ?_⟩
  ·obtain ⟨cs', hc1, hk, _⟩ := hxs j p hp
   refine ⟨cs', d.K_len hk, hk, fun i u hu => ?_⟩
   obtain ⟨_, hcl, hat⟩ := World.cells?_some hc1
   have hil : i < cs'.length := (List.getElem?_eq_some_iff.1 hu).1
   rw [← hu, ← hc, ← Go.Deep.add_add]
   exact hat i (by omega)
  ·obtain ⟨j, hj, hx'⟩ := List.getElem_of_mem hx
   obtain ⟨cs', _, _, hok⟩ := hxs j x (by rw [List.getElem?_eq_getElem hj, hx'])
   exact hok
/-- Its bytes are no more than the row's reach. -/
theorem row_sized {P : Program} {t e : TypeId} (ht : P.underlying t = some (.slice e)) {H : Type} {enc : TypeId × Value → H} {w : World} {base : Nat} {spare : Nat → Bool} {held : Bool} {A : Option Addr} {len cap : Nat} {dt : DataW H} {ps : List MemPlace}
  {ts : List TypeId} {ds : List (DataW H)} {j : Nat} (hsz : (DataW.weightsEach P ts ds).all (· ≤ reachBytes) = true) (hj : ts[j]? = some t) (hd : ds[j]? = some dt) {B : Nat} (hB : P.bytesOf e = B)
  (h : DataW.Trod enc P w base spare held t (.slice A len cap) dt ps) : len * B ≤ 140737488351232 := by
 obtain ⟨fuel, hf⟩ := h
 rcases DataW.trod_slice ht hf with ⟨hcs, _⟩ | ⟨a, l, c, elems, rest, n, _, hcs, hx, _, _, _, hlen, _⟩
 ·simp [Value.cells] at hcs
  obtain ⟨rfl, rfl, rfl⟩ := hcs
  simp
 ·simp [Value.cells] at hcs
  obtain ⟨rfl, rfl, rfl⟩ := hcs
  obtain ⟨hx, _⟩ := Prod.mk.inj hx
  subst hx
  have z := sized_slice hsz hj hd ht
  rw [hB] at z
  simp only [List.length_map] at z
  have z' : (elems.length + rest.length) * B ≤ 140737488351232 := z
  exact Nat.le_trans (Nat.mul_le_mul_right _ (by omega)) z'
/-- A struct that came in by value: its cells. -/
theorem opens_agg {α : Type} {P : Program} {d : Kd α} {t : TypeId} {fs : Array Field} {ok : α → Prop} (ht : P.underlying t = some (.struct fs)) (he : Opens P d t ok) {H : Type} {enc : TypeId × Value → H} {w : World} {base : Nat} {spare : Nat → Bool} {held : Bool} {r : Reach} {b0 : Nat}
  {v : Value} {dt : DataW H} {ps : List MemPlace} (hv : Value.okWide P w r b0 t v) (h : DataW.Trod enc P w base spare held t v dt ps) : ∃ x cs, v = .agg cs ∧ d.K w x cs.toList ∧ ok x := by
 obtain ⟨cs, rfl, _⟩ := okWide_struct ht hv
 obtain ⟨fuel, hf⟩ := h
 obtain ⟨x, hk, hok⟩ := he H enc w base spare held fuel _ _ hf
 exact ⟨x, cs, rfl, hk, hok⟩
end Go.Proofs.YtemenenkefcebaaDoor.Op
