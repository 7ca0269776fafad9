/- A map of whole numbers that is made and filled; runes. -/
import Derived.Test.YtpndeninbokjoaaDoorTb11
import Derived.Test.YtpndeninbokjoaaDoorLx1
namespace Go.Proofs.YtpndeninbokjoaaDoor.P
open Go.RowKit Go.Proofs.YtpndeninbokjoaaDoorW.PrintWords Go.Proofs.YtpndeninbokjoaaDoorW.PrintLast Go.Proofs.YtpndeninbokjoaaDoorW.PrintMore
/-! ### the map of escapes -/
abbrev LD : Type := DataW Unit
def litI (z : Int) : LD := .lit (.int .i64 z)
theorem keyI : Go.Maps.Keyed Tryd.prog 3 := Go.Maps.int_keyed Tryd.underlying3
theorem zeroI (w : World) : (zeroValue 3).run Tryd.prog w = .ok (.int .i64 0) w := by kernel_rfl
theorem wpList_insert_own {P : Program} (w : World) {ops : Array Oper} {rest : List Oper} {o : Oper} {a : Act} {Q : Exit → Act → World → Prop}
  (hg : o.guard = none) (m x v : Operand) (t : TypeId) (hop : o.op = Op.insert t m x v)
  (k e : TypeId) (K : Go.Maps.Keyed P k) (ht : P.underlying t = some (.map k e)) (R : Value → Option (LD × List MemPlace)) (b n : Nat) (D : LD)
  (hm : a.eval m = .map (some b)) (hown : w.ownsMap P k R b n D) (hn : n < maxLen) (key val : Value) (kl : Lit) (hx : a.eval x = key) (hv : a.eval v = val) (hkey : keyOf P k key = some kl)
  (d : LD) (ps : List MemPlace) (hval : R val = some (d, ps))
  (hK : ∀ w', w'.ownsMap P k R b (n + 1) (D.put kl d) → w.grownBy w' (some b) → wpList P ops Q rest (a.put o.dst undef) w') :
  wpList P ops Q (o :: rest) a w := by
 refine wpList_plain hg fun K' hK' => ?_
 obtain ⟨w', hrun, r1, r2⟩ := hown.update K ht hn hkey hval
 unfold Oper.wp
 simp [execOp, hop, hm, hx, hv, hrun, Result.andThen]
 exact hK' _ _ (hK w' r1 r2)
theorem below_own {a W W' : World} {b : Nat} (h : Below a.heap.size a W) (hg : W.grownBy W' (some b)) (hb : a.heap.size ≤ b) : Below a.heap.size a W' := h.grown hg h.size (fun k hk => by cases hk; exact hb)
theorem drop_at (R : List Int) (a : Nat) (h : a < R.length) : R.drop a = rd R (a : Int) :: R.drop (a + 1) := by
 rw [List.drop_eq_getElem_cons h]
 congr 1
 show _ = R.getD a 0
 rw [List.getD_eq_getElem?_getD, List.getElem?_eq_getElem h]
 rfl
theorem i32_rune {v : Int} (h : 0 ≤ v ∧ v ≤ 1114111) : IntKind.i32.wrap v = v := by
 simp [IntKind.wrap, IntKind.bits, IntKind.signed]
 omega
end Go.Proofs.YtpndeninbokjoaaDoor.P
