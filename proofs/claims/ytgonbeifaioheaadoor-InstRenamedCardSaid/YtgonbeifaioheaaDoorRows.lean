/-
  NARROWER THAN 'FOR EVERY INPUT', by the rows' own cells (each row's printed sentence says how): InstDoes: laid · InstOwn: laid · InstRenamed: laid · InstMask: laid · InstNamed: laid · InstBack: laid.
  DERIVED. THE GIVEN ROWS OF THIS SEAT. 6 by the template 'for every input the law returns true; each argument reads behind the call as it read before'; 0 by the template 'total and deterministic' (their statements: YtgonbeifaioheaaDoorTotals.lean).
  GIVEN WITH THE SEED: the statements are not yours to turn. If you find one false, say at which input.
  Laid BY PROGRAM, IN A SANDBOX (cutbox-rows.mjs): the forced cells as the released guide's own fill.sh prints them over the translation e9cf7a7983bcd2aa… (all of the seat's roots in one cut). By AI agents, Wed Nov 11 2026. No macro, syntax, notation, axiom, sorry.
-/
import Derived.Test.YtgonbeifaioheaaDoorChecked
import GoSem.Claim
import GoSem.ClaimJoined
import GoSem.ClaimMapViews
import Derived.JoinedTies
import Derived.KernelRfl
namespace Go.Proofs.YtgonbeifaioheaaDoor
/- THE CELL 'sum', in the pinned program and in every row, IS THE sha256 OF THE DUMP (.gsa) THAT YtgonbeifaioheaaDoorProg.lean LOADS. Nothing in Lean hashes anything: it is a label: what it is worth is what the hold of that sum in a sandbox is worth. -/
noncomputable def Tryd.pinned : Pinned := { name := "ytgonbeifaioheaadoor", sum := "e9cf7a7983bcd2aa36039b5cc6c81f5b5380482cf42b26f50758088389ed5eee", checked := Tryd.checked }
namespace Rows
def none {H : Type} : Left H := { results := [], args := [] }

/- WHAT THE LISTED PACKAGE-LEVEL VARIABLES READ AS WHEN THE CALL BEGINS. Each datum BY PROGRAM (the guide's laid-datum.mjs) off the statement by which the dump's own 'gosem.cut.vars' lays the variable. In a bare row this is a premise. The card (YtgonbeifaioheaaDoorCards.lean) ties it to the program's text. -/
def laid_cleat_inst_shapes {H : Type} : DataW H := .agg [.lit (.int .i64 0), .lit (.int .i64 1), .lit (.int .i64 1), .lit (.int .i64 1), .lit (.int .i64 2), .lit (.int .i64 2), .lit (.int .i64 2), .lit (.int .i64 2), .lit (.int .i64 3), .lit (.int .i64 3), .lit (.int .i64 3), .lit (.int .i64 3), .lit (.int .i64 4), .lit (.int .i64 4), .lit (.int .i64 4), .lit (.int .i64 4), .lit (.int .i64 5), .lit (.int .i64 5), .lit (.int .i64 5), .lit (.int .i64 5), .lit (.int .i64 6), .lit (.int .i64 6), .lit (.int .i64 7), .lit (.int .i64 7), .lit (.int .i64 8), .lit (.int .i64 8), .lit (.int .i64 9), .lit (.int .i64 10), .lit (.int .i64 10), .lit (.int .i64 11), .lit (.int .i64 11), .lit (.int .i64 12), .lit (.int .i64 9), .lit (.int .i64 9), .lit (.int .i64 13), .lit (.int .i64 13), .lit (.int .i64 13), .lit (.int .i64 14), .lit (.int .i64 15), .lit (.int .i64 16)]
def laid_cleat_inst_names {H : Type} : DataW H := .agg [.lit (.string []), .lit (.string [109, 111, 118, 122]), .lit (.string [109, 111, 118, 110]), .lit (.string [109, 111, 118, 107]), .lit (.string [97, 100, 100]), .lit (.string [115, 117, 98]), .lit (.string [97, 100, 100, 115]), .lit (.string [115, 117, 98, 115]), .lit (.string [97, 110, 100]), .lit (.string [111, 114, 114]), .lit (.string [101, 111, 114]), .lit (.string [97, 110, 100, 115]), .lit (.string [97, 100, 100]), .lit (.string [115, 117, 98]), .lit (.string [97, 100, 100, 115]), .lit (.string [115, 117, 98, 115]), .lit (.string [97, 110, 100]), .lit (.string [111, 114, 114]), .lit (.string [101, 111, 114]), .lit (.string [97, 110, 100, 115]), .lit (.string [109, 97, 100, 100]), .lit (.string [109, 115, 117, 98]), .lit (.string [108, 100, 114]), .lit (.string [115, 116, 114]), .lit (.string [108, 100, 114, 98]), .lit (.string [115, 116, 114, 98]), .lit (.string [108, 100, 114]), .lit (.string [97, 100, 114]), .lit (.string [97, 100, 114, 112]), .lit (.string [98]), .lit (.string [98, 108]), .lit (.string [98]), .lit (.string [99, 98, 122]), .lit (.string [99, 98, 110, 122]), .lit (.string [98, 114]), .lit (.string [98, 108, 114]), .lit (.string [114, 101, 116]), .lit (.string [115, 118, 99]), .lit (.string [110, 111, 112]), .lit (.string [99, 115, 101, 108])]

/-- 'cleatlaw04.InstDoes': WHATEVER THE INPUT: true; the input reads as it did. -/
def instDoesSpec : ChangeSpec := { name := "instDoes", fn := fun _ => fun
  | [d] => { results := [.lit (.bool true)], args := [d] }
  | _ => none }
def instDoesRow : OpenClaim := { program := "ytgonbeifaioheaadoor", sum := "e9cf7a7983bcd2aa36039b5cc6c81f5b5380482cf42b26f50758088389ed5eee", func := "cleat/cleatlaw04.InstDoes", spec := "instDoes", unfollowed := true, recurses := true, named := ["cleat/inst.shapes", "cleat/inst.names"], apart := false, laid := [("cleat/inst.shapes", laid_cleat_inst_shapes), ("cleat/inst.names", laid_cleat_inst_names)] }
def InstDoesSaid : Prop := instDoesRow.holds Tryd.pinned (OpenSpec.ofChange instDoesSpec)

/-- ITS FALSE NEIGHBOUR: 'it returns false'. Refute it at one input. -/
def instDoesWrong : ChangeSpec := { name := "instDoes", fn := fun _ => fun
  | [d] => { results := [.lit (.bool false)], args := [d] }
  | _ => none }
def InstDoesWrongFalsely : Prop := instDoesRow.holds Tryd.pinned (OpenSpec.ofChange instDoesWrong)

/-- 'cleatlaw04.InstOwn': WHATEVER THE INPUT: true; the input reads as it did. -/
def instOwnSpec : ChangeSpec := { name := "instOwn", fn := fun _ => fun
  | [d] => { results := [.lit (.bool true)], args := [d] }
  | _ => none }
def instOwnRow : OpenClaim := { program := "ytgonbeifaioheaadoor", sum := "e9cf7a7983bcd2aa36039b5cc6c81f5b5380482cf42b26f50758088389ed5eee", func := "cleat/cleatlaw04.InstOwn", spec := "instOwn", unfollowed := true, recurses := true, named := ["cleat/inst.shapes", "cleat/inst.names"], apart := false, laid := [("cleat/inst.shapes", laid_cleat_inst_shapes), ("cleat/inst.names", laid_cleat_inst_names)] }
def InstOwnSaid : Prop := instOwnRow.holds Tryd.pinned (OpenSpec.ofChange instOwnSpec)

/-- ITS FALSE NEIGHBOUR: 'it returns false'. Refute it at one input. -/
def instOwnWrong : ChangeSpec := { name := "instOwn", fn := fun _ => fun
  | [d] => { results := [.lit (.bool false)], args := [d] }
  | _ => none }
def InstOwnWrongFalsely : Prop := instOwnRow.holds Tryd.pinned (OpenSpec.ofChange instOwnWrong)

/-- 'cleatlaw04.InstRenamed': WHATEVER THE INPUT: true; the input reads as it did. -/
def instRenamedSpec : ChangeSpec := { name := "instRenamed", fn := fun _ => fun
  | [d1, d2, d3] => { results := [.lit (.bool true)], args := [d1, d2, d3] }
  | _ => none }
def instRenamedRow : OpenClaim := { program := "ytgonbeifaioheaadoor", sum := "e9cf7a7983bcd2aa36039b5cc6c81f5b5380482cf42b26f50758088389ed5eee", func := "cleat/cleatlaw04.InstRenamed", spec := "instRenamed", unfollowed := true, recurses := true, named := ["cleat/inst.shapes", "cleat/inst.names"], apart := false, laid := [("cleat/inst.shapes", laid_cleat_inst_shapes), ("cleat/inst.names", laid_cleat_inst_names)] }
def InstRenamedSaid : Prop := instRenamedRow.holds Tryd.pinned (OpenSpec.ofChange instRenamedSpec)

/-- ITS FALSE NEIGHBOUR: 'it returns false'. Refute it at one input. -/
def instRenamedWrong : ChangeSpec := { name := "instRenamed", fn := fun _ => fun
  | [d1, d2, d3] => { results := [.lit (.bool false)], args := [d1, d2, d3] }
  | _ => none }
def InstRenamedWrongFalsely : Prop := instRenamedRow.holds Tryd.pinned (OpenSpec.ofChange instRenamedWrong)

/-- 'cleatlaw04.InstMask': WHATEVER THE INPUT: true; the input reads as it did. -/
def instMaskSpec : ChangeSpec := { name := "instMask", fn := fun _ => fun
  | [d1, d2, d3, d4] => { results := [.lit (.bool true)], args := [d1, d2, d3, d4] }
  | _ => none }
def instMaskRow : OpenClaim := { program := "ytgonbeifaioheaadoor", sum := "e9cf7a7983bcd2aa36039b5cc6c81f5b5380482cf42b26f50758088389ed5eee", func := "cleat/cleatlaw04.InstMask", spec := "instMask", unfollowed := true, recurses := true, named := ["cleat/inst.shapes", "cleat/inst.names"], apart := false, laid := [("cleat/inst.shapes", laid_cleat_inst_shapes), ("cleat/inst.names", laid_cleat_inst_names)] }
def InstMaskSaid : Prop := instMaskRow.holds Tryd.pinned (OpenSpec.ofChange instMaskSpec)

/-- ITS FALSE NEIGHBOUR: 'it returns false'. Refute it at one input. -/
def instMaskWrong : ChangeSpec := { name := "instMask", fn := fun _ => fun
  | [d1, d2, d3, d4] => { results := [.lit (.bool false)], args := [d1, d2, d3, d4] }
  | _ => none }
def InstMaskWrongFalsely : Prop := instMaskRow.holds Tryd.pinned (OpenSpec.ofChange instMaskWrong)

/-- 'cleatlaw04.InstNamed': WHATEVER THE INPUT: true; the input reads as it did. -/
def instNamedSpec : ChangeSpec := { name := "instNamed", fn := fun _ => fun
  | [d1, d2] => { results := [.lit (.bool true)], args := [d1, d2] }
  | _ => none }
def instNamedRow : OpenClaim := { program := "ytgonbeifaioheaadoor", sum := "e9cf7a7983bcd2aa36039b5cc6c81f5b5380482cf42b26f50758088389ed5eee", func := "cleat/cleatlaw04.InstNamed", spec := "instNamed", unfollowed := true, recurses := true, named := ["cleat/inst.names", "cleat/inst.shapes"], apart := false, laid := [("cleat/inst.shapes", laid_cleat_inst_shapes), ("cleat/inst.names", laid_cleat_inst_names)] }
def InstNamedSaid : Prop := instNamedRow.holds Tryd.pinned (OpenSpec.ofChange instNamedSpec)

/-- ITS FALSE NEIGHBOUR: 'it returns false'. Refute it at one input. -/
def instNamedWrong : ChangeSpec := { name := "instNamed", fn := fun _ => fun
  | [d1, d2] => { results := [.lit (.bool false)], args := [d1, d2] }
  | _ => none }
def InstNamedWrongFalsely : Prop := instNamedRow.holds Tryd.pinned (OpenSpec.ofChange instNamedWrong)

/-- 'cleatlaw04.InstBack': WHATEVER THE INPUT: true; the input reads as it did. -/
def instBackSpec : ChangeSpec := { name := "instBack", fn := fun _ => fun
  | [d1, d2] => { results := [.lit (.bool true)], args := [d1, d2] }
  | _ => none }
def instBackRow : OpenClaim := { program := "ytgonbeifaioheaadoor", sum := "e9cf7a7983bcd2aa36039b5cc6c81f5b5380482cf42b26f50758088389ed5eee", func := "cleat/cleatlaw04.InstBack", spec := "instBack", unfollowed := true, recurses := true, named := ["cleat/inst.names", "cleat/inst.shapes"], apart := false, laid := [("cleat/inst.shapes", laid_cleat_inst_shapes), ("cleat/inst.names", laid_cleat_inst_names)] }
def InstBackSaid : Prop := instBackRow.holds Tryd.pinned (OpenSpec.ofChange instBackSpec)

/-- ITS FALSE NEIGHBOUR: 'it returns false'. Refute it at one input. -/
def instBackWrong : ChangeSpec := { name := "instBack", fn := fun _ => fun
  | [d1, d2] => { results := [.lit (.bool false)], args := [d1, d2] }
  | _ => none }
def InstBackWrongFalsely : Prop := instBackRow.holds Tryd.pinned (OpenSpec.ofChange instBackWrong)

/- THE SECOND FORM. 'bulk': how many values and letters a reading holds, each counted each time it is reached (what is shared counts as often as it is met; a slice's spare places count too). A statement '..UptoSaid' is the law's where the arguments, and the package variables that the reading takes, are together of bulk at most 1048576: NARROWER than '..Said'. Prove '..Said' where nothing that the law and all that it calls make is longer than what came in: it says more and counts as full. Else prove '..UptoSaid'. A law counts once. -/
mutual
def uptoBulk {H : Type} : DataW H → Nat
  | .lit (.string bytes) => bytes.length + 1
  | .lit _ => 1
  | .nil => 1
  | .ptr d => uptoBulk d + 1
  | .slice elems spare => uptoBulkAll elems + uptoBulkAll spare + 1
  | .agg parts => uptoBulkAll parts + 1
  | .iface _ d => uptoBulk d + 1
  | .map entries => uptoBulkEntries entries + 1
  | .held _ => 1
def uptoBulkAll {H : Type} : List (DataW H) → Nat
  | [] => 0
  | d :: r => uptoBulk d + uptoBulkAll r
def uptoBulkEntries {H : Type} : List (Lit × DataW H) → Nat
  | [] => 0
  | x :: r => uptoBulkEntry x + uptoBulkEntries r
def uptoBulkEntry {H : Type} : Lit × DataW H → Nat
  | (.string bytes, d) => bytes.length + uptoBulk d + 1
  | (_, d) => uptoBulk d + 1
 end
def uptoSmall : (H : Type) → List (DataW H) → Bool := fun _ ds => decide (uptoBulkAll ds ≤ 1048576)
def OpenSpec.upto (s : _root_.Go.ChangeSpec) : _root_.Go.OpenSpec := { _root_.Go.OpenSpec.ofChange s with cond := some uptoSmall }

/-- 'cleatlaw04.InstDoes', WHERE WHAT IT READS IS OF BULK AT MOST 1048576: true; the input reads as it did. -/
def instDoesUptoRow : OpenClaim := { program := "ytgonbeifaioheaadoor", sum := "e9cf7a7983bcd2aa36039b5cc6c81f5b5380482cf42b26f50758088389ed5eee", func := "cleat/cleatlaw04.InstDoes", spec := "instDoes", unfollowed := true, recurses := true, named := ["cleat/inst.shapes", "cleat/inst.names"], apart := false, laid := [("cleat/inst.shapes", laid_cleat_inst_shapes), ("cleat/inst.names", laid_cleat_inst_names)], narrowed := true }
def InstDoesUptoSaid : Prop := instDoesUptoRow.holds Tryd.pinned (OpenSpec.upto instDoesSpec)

/-- 'cleatlaw04.InstOwn', WHERE WHAT IT READS IS OF BULK AT MOST 1048576: true; the input reads as it did. -/
def instOwnUptoRow : OpenClaim := { program := "ytgonbeifaioheaadoor", sum := "e9cf7a7983bcd2aa36039b5cc6c81f5b5380482cf42b26f50758088389ed5eee", func := "cleat/cleatlaw04.InstOwn", spec := "instOwn", unfollowed := true, recurses := true, named := ["cleat/inst.shapes", "cleat/inst.names"], apart := false, laid := [("cleat/inst.shapes", laid_cleat_inst_shapes), ("cleat/inst.names", laid_cleat_inst_names)], narrowed := true }
def InstOwnUptoSaid : Prop := instOwnUptoRow.holds Tryd.pinned (OpenSpec.upto instOwnSpec)

/-- 'cleatlaw04.InstRenamed', WHERE WHAT IT READS IS OF BULK AT MOST 1048576: true; the input reads as it did. -/
def instRenamedUptoRow : OpenClaim := { program := "ytgonbeifaioheaadoor", sum := "e9cf7a7983bcd2aa36039b5cc6c81f5b5380482cf42b26f50758088389ed5eee", func := "cleat/cleatlaw04.InstRenamed", spec := "instRenamed", unfollowed := true, recurses := true, named := ["cleat/inst.shapes", "cleat/inst.names"], apart := false, laid := [("cleat/inst.shapes", laid_cleat_inst_shapes), ("cleat/inst.names", laid_cleat_inst_names)], narrowed := true }
def InstRenamedUptoSaid : Prop := instRenamedUptoRow.holds Tryd.pinned (OpenSpec.upto instRenamedSpec)

/-- 'cleatlaw04.InstMask', WHERE WHAT IT READS IS OF BULK AT MOST 1048576: true; the input reads as it did. -/
def instMaskUptoRow : OpenClaim := { program := "ytgonbeifaioheaadoor", sum := "e9cf7a7983bcd2aa36039b5cc6c81f5b5380482cf42b26f50758088389ed5eee", func := "cleat/cleatlaw04.InstMask", spec := "instMask", unfollowed := true, recurses := true, named := ["cleat/inst.shapes", "cleat/inst.names"], apart := false, laid := [("cleat/inst.shapes", laid_cleat_inst_shapes), ("cleat/inst.names", laid_cleat_inst_names)], narrowed := true }
def InstMaskUptoSaid : Prop := instMaskUptoRow.holds Tryd.pinned (OpenSpec.upto instMaskSpec)

/-- 'cleatlaw04.InstNamed', WHERE WHAT IT READS IS OF BULK AT MOST 1048576: true; the input reads as it did. -/
def instNamedUptoRow : OpenClaim := { program := "ytgonbeifaioheaadoor", sum := "e9cf7a7983bcd2aa36039b5cc6c81f5b5380482cf42b26f50758088389ed5eee", func := "cleat/cleatlaw04.InstNamed", spec := "instNamed", unfollowed := true, recurses := true, named := ["cleat/inst.names", "cleat/inst.shapes"], apart := false, laid := [("cleat/inst.shapes", laid_cleat_inst_shapes), ("cleat/inst.names", laid_cleat_inst_names)], narrowed := true }
def InstNamedUptoSaid : Prop := instNamedUptoRow.holds Tryd.pinned (OpenSpec.upto instNamedSpec)

/-- 'cleatlaw04.InstBack', WHERE WHAT IT READS IS OF BULK AT MOST 1048576: true; the input reads as it did. -/
def instBackUptoRow : OpenClaim := { program := "ytgonbeifaioheaadoor", sum := "e9cf7a7983bcd2aa36039b5cc6c81f5b5380482cf42b26f50758088389ed5eee", func := "cleat/cleatlaw04.InstBack", spec := "instBack", unfollowed := true, recurses := true, named := ["cleat/inst.names", "cleat/inst.shapes"], apart := false, laid := [("cleat/inst.shapes", laid_cleat_inst_shapes), ("cleat/inst.names", laid_cleat_inst_names)], narrowed := true }
def InstBackUptoSaid : Prop := instBackUptoRow.holds Tryd.pinned (OpenSpec.upto instBackSpec)

end Rows
end Go.Proofs.YtgonbeifaioheaaDoor
