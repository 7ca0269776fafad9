/-
  No cell of these rows narrows 'for every input' (looked for: loops, veiled, ifaces, maps, wideKeys, modest, calm, conditions, laid).
  DERIVED. THE GIVEN ROWS OF THIS SEAT. 6 by the template 'for every input the law returns true; each argument reads behind the call as it read before'; 0 by the template 'total and deterministic' (their statements: YthhknfbpfdmggaaTotals.lean).
  GIVEN WITH THE SEED: the statements are not yours to turn. If you find one false, say at which input.
  Laid BY PROGRAM, IN A SANDBOX (cutbox-rows.mjs): the forced cells as the released guide's own fill.sh prints them over the translation 27d5281d1a16c8a3… (all of the seat's roots in one cut). By AI agents, Wed Nov 11 2026. No macro, syntax, notation, axiom, sorry.
-/
import Derived.Test.YthhknfbpfdmggaaChecked
import GoSem.Claim
import GoSem.ClaimJoined
import GoSem.ClaimMapViews
import Derived.JoinedTies
import Derived.KernelRfl
namespace Go.Proofs.Ythhknfbpfdmggaa
/- THE CELL 'sum', in the pinned program and in every row, IS THE sha256 OF THE DUMP (.gsa) THAT YthhknfbpfdmggaaProg.lean LOADS. Nothing in Lean hashes anything: it is a label: what it is worth is what the hold of that sum in a sandbox is worth. -/
noncomputable def Try.pinned : Pinned := { name := "ythhknfbpfdmggaa", sum := "27d5281d1a16c8a3aa067722106f833df592d45a2341041128070adae4d00057", checked := Try.checked }
namespace Rows
def none {H : Type} : Left H := { results := [], args := [] }

/-- 'cleatlaw01.BitsSigned': WHATEVER THE INPUT: true; the input reads as it did. -/
def bitsSignedSpec : ChangeSpec := { name := "bitsSigned", fn := fun _ => fun
  | [d1, d2, d3] => { results := [.lit (.bool true)], args := [d1, d2, d3] }
  | _ => none }
def bitsSignedRow : OpenClaim := { program := "ythhknfbpfdmggaa", sum := "27d5281d1a16c8a3aa067722106f833df592d45a2341041128070adae4d00057", func := "cleat/cleatlaw01.BitsSigned", spec := "bitsSigned", apart := false }
def BitsSignedSaid : Prop := bitsSignedRow.holds Try.pinned (OpenSpec.ofChange bitsSignedSpec)

/-- ITS FALSE NEIGHBOUR: 'it returns false'. Refute it at one input. -/
def bitsSignedWrong : ChangeSpec := { name := "bitsSigned", fn := fun _ => fun
  | [d1, d2, d3] => { results := [.lit (.bool false)], args := [d1, d2, d3] }
  | _ => none }
def BitsSignedWrongFalsely : Prop := bitsSignedRow.holds Try.pinned (OpenSpec.ofChange bitsSignedWrong)

/-- 'cleatlaw01.BitsTurned': WHATEVER THE INPUT: true; the input reads as it did. -/
def bitsTurnedSpec : ChangeSpec := { name := "bitsTurned", fn := fun _ => fun
  | [d1, d2, d3, d4] => { results := [.lit (.bool true)], args := [d1, d2, d3, d4] }
  | _ => none }
def bitsTurnedRow : OpenClaim := { program := "ythhknfbpfdmggaa", sum := "27d5281d1a16c8a3aa067722106f833df592d45a2341041128070adae4d00057", func := "cleat/cleatlaw01.BitsTurned", spec := "bitsTurned", apart := false }
def BitsTurnedSaid : Prop := bitsTurnedRow.holds Try.pinned (OpenSpec.ofChange bitsTurnedSpec)

/-- ITS FALSE NEIGHBOUR: 'it returns false'. Refute it at one input. -/
def bitsTurnedWrong : ChangeSpec := { name := "bitsTurned", fn := fun _ => fun
  | [d1, d2, d3, d4] => { results := [.lit (.bool false)], args := [d1, d2, d3, d4] }
  | _ => none }
def BitsTurnedWrongFalsely : Prop := bitsTurnedRow.holds Try.pinned (OpenSpec.ofChange bitsTurnedWrong)

/-- 'cleatlaw01.BitsSign': WHATEVER THE INPUT: true; the input reads as it did. -/
def bitsSignSpec : ChangeSpec := { name := "bitsSign", fn := fun _ => fun
  | [d1, d2, d3, d4] => { results := [.lit (.bool true)], args := [d1, d2, d3, d4] }
  | _ => none }
def bitsSignRow : OpenClaim := { program := "ythhknfbpfdmggaa", sum := "27d5281d1a16c8a3aa067722106f833df592d45a2341041128070adae4d00057", func := "cleat/cleatlaw01.BitsSign", spec := "bitsSign", apart := false }
def BitsSignSaid : Prop := bitsSignRow.holds Try.pinned (OpenSpec.ofChange bitsSignSpec)

/-- ITS FALSE NEIGHBOUR: 'it returns false'. Refute it at one input. -/
def bitsSignWrong : ChangeSpec := { name := "bitsSign", fn := fun _ => fun
  | [d1, d2, d3, d4] => { results := [.lit (.bool false)], args := [d1, d2, d3, d4] }
  | _ => none }
def BitsSignWrongFalsely : Prop := bitsSignRow.holds Try.pinned (OpenSpec.ofChange bitsSignWrong)

/-- 'cleatlaw01.BitsRound': WHATEVER THE INPUT: true; the input reads as it did. -/
def bitsRoundSpec : ChangeSpec := { name := "bitsRound", fn := fun _ => fun
  | [d1, d2, d3, d4] => { results := [.lit (.bool true)], args := [d1, d2, d3, d4] }
  | _ => none }
def bitsRoundRow : OpenClaim := { program := "ythhknfbpfdmggaa", sum := "27d5281d1a16c8a3aa067722106f833df592d45a2341041128070adae4d00057", func := "cleat/cleatlaw01.BitsRound", spec := "bitsRound", apart := false }
def BitsRoundSaid : Prop := bitsRoundRow.holds Try.pinned (OpenSpec.ofChange bitsRoundSpec)

/-- ITS FALSE NEIGHBOUR: 'it returns false'. Refute it at one input. -/
def bitsRoundWrong : ChangeSpec := { name := "bitsRound", fn := fun _ => fun
  | [d1, d2, d3, d4] => { results := [.lit (.bool false)], args := [d1, d2, d3, d4] }
  | _ => none }
def BitsRoundWrongFalsely : Prop := bitsRoundRow.holds Try.pinned (OpenSpec.ofChange bitsRoundWrong)

/-- 'cleatlaw01.BitsFields': WHATEVER THE INPUT: true; the input reads as it did. -/
def bitsFieldsSpec : ChangeSpec := { name := "bitsFields", fn := fun _ => fun
  | [d1, d2, d3, d4] => { results := [.lit (.bool true)], args := [d1, d2, d3, d4] }
  | _ => none }
def bitsFieldsRow : OpenClaim := { program := "ythhknfbpfdmggaa", sum := "27d5281d1a16c8a3aa067722106f833df592d45a2341041128070adae4d00057", func := "cleat/cleatlaw01.BitsFields", spec := "bitsFields", apart := false }
def BitsFieldsSaid : Prop := bitsFieldsRow.holds Try.pinned (OpenSpec.ofChange bitsFieldsSpec)

/-- ITS FALSE NEIGHBOUR: 'it returns false'. Refute it at one input. -/
def bitsFieldsWrong : ChangeSpec := { name := "bitsFields", fn := fun _ => fun
  | [d1, d2, d3, d4] => { results := [.lit (.bool false)], args := [d1, d2, d3, d4] }
  | _ => none }
def BitsFieldsWrongFalsely : Prop := bitsFieldsRow.holds Try.pinned (OpenSpec.ofChange bitsFieldsWrong)

/-- 'cleatlaw01.BitsBack': WHATEVER THE INPUT: true; the input reads as it did. -/
def bitsBackSpec : ChangeSpec := { name := "bitsBack", fn := fun _ => fun
  | [d1, d2, d3, d4] => { results := [.lit (.bool true)], args := [d1, d2, d3, d4] }
  | _ => none }
def bitsBackRow : OpenClaim := { program := "ythhknfbpfdmggaa", sum := "27d5281d1a16c8a3aa067722106f833df592d45a2341041128070adae4d00057", func := "cleat/cleatlaw01.BitsBack", spec := "bitsBack", apart := false }
def BitsBackSaid : Prop := bitsBackRow.holds Try.pinned (OpenSpec.ofChange bitsBackSpec)

/-- ITS FALSE NEIGHBOUR: 'it returns false'. Refute it at one input. -/
def bitsBackWrong : ChangeSpec := { name := "bitsBack", fn := fun _ => fun
  | [d1, d2, d3, d4] => { results := [.lit (.bool false)], args := [d1, d2, d3, d4] }
  | _ => none }
def BitsBackWrongFalsely : Prop := bitsBackRow.holds Try.pinned (OpenSpec.ofChange bitsBackWrong)

/- THE SECOND FORM. 'bulk': how many values and letters a reading holds, each counted each time it is reached (what is shared counts as often as it is met; a slice's spare places count too). A statement '..UptoSaid' is the law's where the arguments, and the package variables that the reading takes, are together of bulk at most 1048576: NARROWER than '..Said'. Prove '..Said' where nothing that the law and all that it calls make is longer than what came in: it says more and counts as full. Else prove '..UptoSaid'. A law counts once. -/
mutual
def uptoBulk {H : Type} : DataW H → Nat
  | .lit (.string bytes) => bytes.length + 1
  | .lit _ => 1
  | .nil => 1
  | .ptr d => uptoBulk d + 1
  | .slice elems spare => uptoBulkAll elems + uptoBulkAll spare + 1
  | .agg parts => uptoBulkAll parts + 1
  | .iface _ d => uptoBulk d + 1
  | .map entries => uptoBulkEntries entries + 1
  | .held _ => 1
def uptoBulkAll {H : Type} : List (DataW H) → Nat
  | [] => 0
  | d :: r => uptoBulk d + uptoBulkAll r
def uptoBulkEntries {H : Type} : List (Lit × DataW H) → Nat
  | [] => 0
  | x :: r => uptoBulkEntry x + uptoBulkEntries r
def uptoBulkEntry {H : Type} : Lit × DataW H → Nat
  | (.string bytes, d) => bytes.length + uptoBulk d + 1
  | (_, d) => uptoBulk d + 1
 end
def uptoSmall : (H : Type) → List (DataW H) → Bool := fun _ ds => decide (uptoBulkAll ds ≤ 1048576)
def OpenSpec.upto (s : _root_.Go.ChangeSpec) : _root_.Go.OpenSpec := { _root_.Go.OpenSpec.ofChange s with cond := some uptoSmall }

/-- 'cleatlaw01.BitsSigned', WHERE WHAT IT READS IS OF BULK AT MOST 1048576: true; the input reads as it did. -/
def bitsSignedUptoRow : OpenClaim := { program := "ythhknfbpfdmggaa", sum := "27d5281d1a16c8a3aa067722106f833df592d45a2341041128070adae4d00057", func := "cleat/cleatlaw01.BitsSigned", spec := "bitsSigned", apart := false, narrowed := true }
def BitsSignedUptoSaid : Prop := bitsSignedUptoRow.holds Try.pinned (OpenSpec.upto bitsSignedSpec)

/-- 'cleatlaw01.BitsTurned', WHERE WHAT IT READS IS OF BULK AT MOST 1048576: true; the input reads as it did. -/
def bitsTurnedUptoRow : OpenClaim := { program := "ythhknfbpfdmggaa", sum := "27d5281d1a16c8a3aa067722106f833df592d45a2341041128070adae4d00057", func := "cleat/cleatlaw01.BitsTurned", spec := "bitsTurned", apart := false, narrowed := true }
def BitsTurnedUptoSaid : Prop := bitsTurnedUptoRow.holds Try.pinned (OpenSpec.upto bitsTurnedSpec)

/-- 'cleatlaw01.BitsSign', WHERE WHAT IT READS IS OF BULK AT MOST 1048576: true; the input reads as it did. -/
def bitsSignUptoRow : OpenClaim := { program := "ythhknfbpfdmggaa", sum := "27d5281d1a16c8a3aa067722106f833df592d45a2341041128070adae4d00057", func := "cleat/cleatlaw01.BitsSign", spec := "bitsSign", apart := false, narrowed := true }
def BitsSignUptoSaid : Prop := bitsSignUptoRow.holds Try.pinned (OpenSpec.upto bitsSignSpec)

/-- 'cleatlaw01.BitsRound', WHERE WHAT IT READS IS OF BULK AT MOST 1048576: true; the input reads as it did. -/
def bitsRoundUptoRow : OpenClaim := { program := "ythhknfbpfdmggaa", sum := "27d5281d1a16c8a3aa067722106f833df592d45a2341041128070adae4d00057", func := "cleat/cleatlaw01.BitsRound", spec := "bitsRound", apart := false, narrowed := true }
def BitsRoundUptoSaid : Prop := bitsRoundUptoRow.holds Try.pinned (OpenSpec.upto bitsRoundSpec)

/-- 'cleatlaw01.BitsFields', WHERE WHAT IT READS IS OF BULK AT MOST 1048576: true; the input reads as it did. -/
def bitsFieldsUptoRow : OpenClaim := { program := "ythhknfbpfdmggaa", sum := "27d5281d1a16c8a3aa067722106f833df592d45a2341041128070adae4d00057", func := "cleat/cleatlaw01.BitsFields", spec := "bitsFields", apart := false, narrowed := true }
def BitsFieldsUptoSaid : Prop := bitsFieldsUptoRow.holds Try.pinned (OpenSpec.upto bitsFieldsSpec)

/-- 'cleatlaw01.BitsBack', WHERE WHAT IT READS IS OF BULK AT MOST 1048576: true; the input reads as it did. -/
def bitsBackUptoRow : OpenClaim := { program := "ythhknfbpfdmggaa", sum := "27d5281d1a16c8a3aa067722106f833df592d45a2341041128070adae4d00057", func := "cleat/cleatlaw01.BitsBack", spec := "bitsBack", apart := false, narrowed := true }
def BitsBackUptoSaid : Prop := bitsBackUptoRow.holds Try.pinned (OpenSpec.upto bitsBackSpec)

end Rows
end Go.Proofs.Ythhknfbpfdmggaa
