/-
  No cell of these rows narrows 'for every input' (looked for: loops, veiled, ifaces, maps, wideKeys, modest, calm, conditions, laid).
  DERIVED. THE GIVEN ROWS OF THIS SEAT. 5 by the template 'for every input the law returns true; each argument reads behind the call as it read before'; 0 by the template 'total and deterministic' (their statements: YteachdhnoakgeaaTotals.lean).
  GIVEN WITH THE SEED: the statements are not yours to turn. If you find one false, say at which input.
  Laid BY PROGRAM, IN A SANDBOX (cutbox-rows.mjs): the forced cells as the released guide's own fill.sh prints them over the translation 9b9828a521e1702e… (all of the seat's roots in one cut). By AI agents, Wed Nov 11 2026. No macro, syntax, notation, axiom, sorry.
-/
import Derived.Test.YteachdhnoakgeaaChecked
import GoSem.Claim
import GoSem.ClaimJoined
import GoSem.ClaimMapViews
import Derived.JoinedTies
import Derived.KernelRfl
namespace Go.Proofs.Yteachdhnoakgeaa
/- THE CELL 'sum', in the pinned program and in every row, IS THE sha256 OF THE DUMP (.gsa) THAT YteachdhnoakgeaaProg.lean LOADS. Nothing in Lean hashes anything: it is a label: what it is worth is what the hold of that sum in a sandbox is worth. -/
noncomputable def Try.pinned : Pinned := { name := "yteachdhnoakgeaa", sum := "9b9828a521e1702eafb777ea245a188f9e0987251ac060f6acd2f5a51eccc745", checked := Try.checked }
namespace Rows
def none {H : Type} : Left H := { results := [], args := [] }

/-- 'cleatlaw02.MaskDoes': WHATEVER THE INPUT: true; the input reads as it did. -/
def maskDoesSpec : ChangeSpec := { name := "maskDoes", fn := fun _ => fun
  | [d1, d2, d3, d4] => { results := [.lit (.bool true)], args := [d1, d2, d3, d4] }
  | _ => none }
def maskDoesRow : OpenClaim := { program := "yteachdhnoakgeaa", sum := "9b9828a521e1702eafb777ea245a188f9e0987251ac060f6acd2f5a51eccc745", func := "cleat/cleatlaw02.MaskDoes", spec := "maskDoes", unfollowed := true, recurses := true, apart := false }
def MaskDoesSaid : Prop := maskDoesRow.holds Try.pinned (OpenSpec.ofChange maskDoesSpec)

/-- ITS FALSE NEIGHBOUR: 'it returns false'. Refute it at one input. -/
def maskDoesWrong : ChangeSpec := { name := "maskDoes", fn := fun _ => fun
  | [d1, d2, d3, d4] => { results := [.lit (.bool false)], args := [d1, d2, d3, d4] }
  | _ => none }
def MaskDoesWrongFalsely : Prop := maskDoesRow.holds Try.pinned (OpenSpec.ofChange maskDoesWrong)

/-- 'cleatlaw02.MaskBack': WHATEVER THE INPUT: true; the input reads as it did. -/
def maskBackSpec : ChangeSpec := { name := "maskBack", fn := fun _ => fun
  | [d1, d2, d3, d4] => { results := [.lit (.bool true)], args := [d1, d2, d3, d4] }
  | _ => none }
def maskBackRow : OpenClaim := { program := "yteachdhnoakgeaa", sum := "9b9828a521e1702eafb777ea245a188f9e0987251ac060f6acd2f5a51eccc745", func := "cleat/cleatlaw02.MaskBack", spec := "maskBack", unfollowed := true, recurses := true, apart := false }
def MaskBackSaid : Prop := maskBackRow.holds Try.pinned (OpenSpec.ofChange maskBackSpec)

/-- ITS FALSE NEIGHBOUR: 'it returns false'. Refute it at one input. -/
def maskBackWrong : ChangeSpec := { name := "maskBack", fn := fun _ => fun
  | [d1, d2, d3, d4] => { results := [.lit (.bool false)], args := [d1, d2, d3, d4] }
  | _ => none }
def MaskBackWrongFalsely : Prop := maskBackRow.holds Try.pinned (OpenSpec.ofChange maskBackWrong)

/-- 'cleatlaw02.MaskOther': WHATEVER THE INPUT: true; the input reads as it did. -/
def maskOtherSpec : ChangeSpec := { name := "maskOther", fn := fun _ => fun
  | [d1, d2] => { results := [.lit (.bool true)], args := [d1, d2] }
  | _ => none }
def maskOtherRow : OpenClaim := { program := "yteachdhnoakgeaa", sum := "9b9828a521e1702eafb777ea245a188f9e0987251ac060f6acd2f5a51eccc745", func := "cleat/cleatlaw02.MaskOther", spec := "maskOther", unfollowed := true, recurses := true, apart := false }
def MaskOtherSaid : Prop := maskOtherRow.holds Try.pinned (OpenSpec.ofChange maskOtherSpec)

/-- ITS FALSE NEIGHBOUR: 'it returns false'. Refute it at one input. -/
def maskOtherWrong : ChangeSpec := { name := "maskOther", fn := fun _ => fun
  | [d1, d2] => { results := [.lit (.bool false)], args := [d1, d2] }
  | _ => none }
def MaskOtherWrongFalsely : Prop := maskOtherRow.holds Try.pinned (OpenSpec.ofChange maskOtherWrong)

/-- 'cleatlaw02.MaskRow': WHATEVER THE INPUT: true; the input reads as it did. -/
def maskRowSpec : ChangeSpec := { name := "maskRow", fn := fun _ => fun
  | [d1, d2, d3] => { results := [.lit (.bool true)], args := [d1, d2, d3] }
  | _ => none }
def maskRowRow : OpenClaim := { program := "yteachdhnoakgeaa", sum := "9b9828a521e1702eafb777ea245a188f9e0987251ac060f6acd2f5a51eccc745", func := "cleat/cleatlaw02.MaskRow", spec := "maskRow", unfollowed := true, recurses := true, apart := false }
def MaskRowSaid : Prop := maskRowRow.holds Try.pinned (OpenSpec.ofChange maskRowSpec)

/-- ITS FALSE NEIGHBOUR: 'it returns false'. Refute it at one input. -/
def maskRowWrong : ChangeSpec := { name := "maskRow", fn := fun _ => fun
  | [d1, d2, d3] => { results := [.lit (.bool false)], args := [d1, d2, d3] }
  | _ => none }
def MaskRowWrongFalsely : Prop := maskRowRow.holds Try.pinned (OpenSpec.ofChange maskRowWrong)

/-- 'cleatlaw02.MaskSize': WHATEVER THE INPUT: true; the input reads as it did. -/
def maskSizeSpec : ChangeSpec := { name := "maskSize", fn := fun _ => fun
  | [d] => { results := [.lit (.bool true)], args := [d] }
  | _ => none }
def maskSizeRow : OpenClaim := { program := "yteachdhnoakgeaa", sum := "9b9828a521e1702eafb777ea245a188f9e0987251ac060f6acd2f5a51eccc745", func := "cleat/cleatlaw02.MaskSize", spec := "maskSize", unfollowed := true, recurses := true, apart := false }
def MaskSizeSaid : Prop := maskSizeRow.holds Try.pinned (OpenSpec.ofChange maskSizeSpec)

/-- ITS FALSE NEIGHBOUR: 'it returns false'. Refute it at one input. -/
def maskSizeWrong : ChangeSpec := { name := "maskSize", fn := fun _ => fun
  | [d] => { results := [.lit (.bool false)], args := [d] }
  | _ => none }
def MaskSizeWrongFalsely : Prop := maskSizeRow.holds Try.pinned (OpenSpec.ofChange maskSizeWrong)

/- THE SECOND FORM. 'bulk': how many values and letters a reading holds, each counted each time it is reached (what is shared counts as often as it is met; a slice's spare places count too). A statement '..UptoSaid' is the law's where the arguments, and the package variables that the reading takes, are together of bulk at most 1048576: NARROWER than '..Said'. Prove '..Said' where nothing that the law and all that it calls make is longer than what came in: it says more and counts as full. Else prove '..UptoSaid'. A law counts once. -/
mutual
def uptoBulk {H : Type} : DataW H → Nat
  | .lit (.string bytes) => bytes.length + 1
  | .lit _ => 1
  | .nil => 1
  | .ptr d => uptoBulk d + 1
  | .slice elems spare => uptoBulkAll elems + uptoBulkAll spare + 1
  | .agg parts => uptoBulkAll parts + 1
  | .iface _ d => uptoBulk d + 1
  | .map entries => uptoBulkEntries entries + 1
  | .held _ => 1
def uptoBulkAll {H : Type} : List (DataW H) → Nat
  | [] => 0
  | d :: r => uptoBulk d + uptoBulkAll r
def uptoBulkEntries {H : Type} : List (Lit × DataW H) → Nat
  | [] => 0
  | x :: r => uptoBulkEntry x + uptoBulkEntries r
def uptoBulkEntry {H : Type} : Lit × DataW H → Nat
  | (.string bytes, d) => bytes.length + uptoBulk d + 1
  | (_, d) => uptoBulk d + 1
 end
def uptoSmall : (H : Type) → List (DataW H) → Bool := fun _ ds => decide (uptoBulkAll ds ≤ 1048576)
def OpenSpec.upto (s : _root_.Go.ChangeSpec) : _root_.Go.OpenSpec := { _root_.Go.OpenSpec.ofChange s with cond := some uptoSmall }

/-- 'cleatlaw02.MaskDoes', WHERE WHAT IT READS IS OF BULK AT MOST 1048576: true; the input reads as it did. -/
def maskDoesUptoRow : OpenClaim := { program := "yteachdhnoakgeaa", sum := "9b9828a521e1702eafb777ea245a188f9e0987251ac060f6acd2f5a51eccc745", func := "cleat/cleatlaw02.MaskDoes", spec := "maskDoes", unfollowed := true, recurses := true, apart := false, narrowed := true }
def MaskDoesUptoSaid : Prop := maskDoesUptoRow.holds Try.pinned (OpenSpec.upto maskDoesSpec)

/-- 'cleatlaw02.MaskBack', WHERE WHAT IT READS IS OF BULK AT MOST 1048576: true; the input reads as it did. -/
def maskBackUptoRow : OpenClaim := { program := "yteachdhnoakgeaa", sum := "9b9828a521e1702eafb777ea245a188f9e0987251ac060f6acd2f5a51eccc745", func := "cleat/cleatlaw02.MaskBack", spec := "maskBack", unfollowed := true, recurses := true, apart := false, narrowed := true }
def MaskBackUptoSaid : Prop := maskBackUptoRow.holds Try.pinned (OpenSpec.upto maskBackSpec)

/-- 'cleatlaw02.MaskOther', WHERE WHAT IT READS IS OF BULK AT MOST 1048576: true; the input reads as it did. -/
def maskOtherUptoRow : OpenClaim := { program := "yteachdhnoakgeaa", sum := "9b9828a521e1702eafb777ea245a188f9e0987251ac060f6acd2f5a51eccc745", func := "cleat/cleatlaw02.MaskOther", spec := "maskOther", unfollowed := true, recurses := true, apart := false, narrowed := true }
def MaskOtherUptoSaid : Prop := maskOtherUptoRow.holds Try.pinned (OpenSpec.upto maskOtherSpec)

/-- 'cleatlaw02.MaskRow', WHERE WHAT IT READS IS OF BULK AT MOST 1048576: true; the input reads as it did. -/
def maskRowUptoRow : OpenClaim := { program := "yteachdhnoakgeaa", sum := "9b9828a521e1702eafb777ea245a188f9e0987251ac060f6acd2f5a51eccc745", func := "cleat/cleatlaw02.MaskRow", spec := "maskRow", unfollowed := true, recurses := true, apart := false, narrowed := true }
def MaskRowUptoSaid : Prop := maskRowUptoRow.holds Try.pinned (OpenSpec.upto maskRowSpec)

/-- 'cleatlaw02.MaskSize', WHERE WHAT IT READS IS OF BULK AT MOST 1048576: true; the input reads as it did. -/
def maskSizeUptoRow : OpenClaim := { program := "yteachdhnoakgeaa", sum := "9b9828a521e1702eafb777ea245a188f9e0987251ac060f6acd2f5a51eccc745", func := "cleat/cleatlaw02.MaskSize", spec := "maskSize", unfollowed := true, recurses := true, apart := false, narrowed := true }
def MaskSizeUptoSaid : Prop := maskSizeUptoRow.holds Try.pinned (OpenSpec.upto maskSizeSpec)

end Rows
end Go.Proofs.Yteachdhnoakgeaa
