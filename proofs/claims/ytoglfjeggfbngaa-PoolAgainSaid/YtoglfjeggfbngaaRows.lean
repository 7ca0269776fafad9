/-
  No cell of these rows narrows 'for every input' (looked for: loops, veiled, ifaces, maps, wideKeys, modest, calm, conditions, laid).
  DERIVED. THE GIVEN ROWS OF THIS SEAT. 4 by the template 'for every input the law returns true; each argument reads behind the call as it read before'; 0 by the template 'total and deterministic' (their statements: YtoglfjeggfbngaaTotals.lean).
  GIVEN WITH THE SEED: the statements are not yours to turn. If you find one false, say at which input.
  Laid BY PROGRAM, IN A SANDBOX (cutbox-rows.mjs): the forced cells as the released guide's own fill.sh prints them over the translation 1ab51abe42b598f3… (all of the seat's roots in one cut). By AI agents, Wed Nov 11 2026. No macro, syntax, notation, axiom, sorry.
-/
import Derived.Test.YtoglfjeggfbngaaChecked
import GoSem.Claim
import GoSem.ClaimJoined
import GoSem.ClaimMapViews
import Derived.JoinedTies
import Derived.KernelRfl
namespace Go.Proofs.Ytoglfjeggfbngaa
/- THE CELL 'sum', in the pinned program and in every row, IS THE sha256 OF THE DUMP (.gsa) THAT YtoglfjeggfbngaaProg.lean LOADS. Nothing in Lean hashes anything: it is a label: what it is worth is what the hold of that sum in a sandbox is worth. -/
noncomputable def Try.pinned : Pinned := { name := "ytoglfjeggfbngaa", sum := "1ab51abe42b598f36bb88855d2c090221be512459ca766abd722b29cc448ec2e", checked := Try.checked }
namespace Rows
def none {H : Type} : Left H := { results := [], args := [] }

/-- 'cleatlaw15.PoolFull': WHATEVER THE INPUT: true; the input reads as it did. -/
def poolFullSpec : ChangeSpec := { name := "poolFull", fn := fun _ => fun
  | [d] => { results := [.lit (.bool true)], args := [d] }
  | _ => none }
def poolFullRow : OpenClaim := { program := "ytoglfjeggfbngaa", sum := "1ab51abe42b598f36bb88855d2c090221be512459ca766abd722b29cc448ec2e", func := "cleat/cleatlaw15.PoolFull", spec := "poolFull", plainKeys := false, apart := false }
def PoolFullSaid : Prop := poolFullRow.holds Try.pinned (OpenSpec.ofChange poolFullSpec)

/-- ITS FALSE NEIGHBOUR: 'it returns false'. Refute it at one input. -/
def poolFullWrong : ChangeSpec := { name := "poolFull", fn := fun _ => fun
  | [d] => { results := [.lit (.bool false)], args := [d] }
  | _ => none }
def PoolFullWrongFalsely : Prop := poolFullRow.holds Try.pinned (OpenSpec.ofChange poolFullWrong)

/-- 'cleatlaw15.PoolSame': WHATEVER THE INPUT: true; the input reads as it did. -/
def poolSameSpec : ChangeSpec := { name := "poolSame", fn := fun _ => fun
  | [d1, d2] => { results := [.lit (.bool true)], args := [d1, d2] }
  | _ => none }
def poolSameRow : OpenClaim := { program := "ytoglfjeggfbngaa", sum := "1ab51abe42b598f36bb88855d2c090221be512459ca766abd722b29cc448ec2e", func := "cleat/cleatlaw15.PoolSame", spec := "poolSame", plainKeys := false, apart := false }
def PoolSameSaid : Prop := poolSameRow.holds Try.pinned (OpenSpec.ofChange poolSameSpec)

/-- ITS FALSE NEIGHBOUR: 'it returns false'. Refute it at one input. -/
def poolSameWrong : ChangeSpec := { name := "poolSame", fn := fun _ => fun
  | [d1, d2] => { results := [.lit (.bool false)], args := [d1, d2] }
  | _ => none }
def PoolSameWrongFalsely : Prop := poolSameRow.holds Try.pinned (OpenSpec.ofChange poolSameWrong)

/-- 'cleatlaw15.PoolAgain': WHATEVER THE INPUT: true; the input reads as it did. -/
def poolAgainSpec : ChangeSpec := { name := "poolAgain", fn := fun _ => fun
  | [d] => { results := [.lit (.bool true)], args := [d] }
  | _ => none }
def poolAgainRow : OpenClaim := { program := "ytoglfjeggfbngaa", sum := "1ab51abe42b598f36bb88855d2c090221be512459ca766abd722b29cc448ec2e", func := "cleat/cleatlaw15.PoolAgain", spec := "poolAgain", plainKeys := false, apart := false }
def PoolAgainSaid : Prop := poolAgainRow.holds Try.pinned (OpenSpec.ofChange poolAgainSpec)

/-- ITS FALSE NEIGHBOUR: 'it returns false'. Refute it at one input. -/
def poolAgainWrong : ChangeSpec := { name := "poolAgain", fn := fun _ => fun
  | [d] => { results := [.lit (.bool false)], args := [d] }
  | _ => none }
def PoolAgainWrongFalsely : Prop := poolAgainRow.holds Try.pinned (OpenSpec.ofChange poolAgainWrong)

/-- 'cleatlaw15.PoolValue': WHATEVER THE INPUT: true; the input reads as it did. -/
def poolValueSpec : ChangeSpec := { name := "poolValue", fn := fun _ => fun
  | [d] => { results := [.lit (.bool true)], args := [d] }
  | _ => none }
def poolValueRow : OpenClaim := { program := "ytoglfjeggfbngaa", sum := "1ab51abe42b598f36bb88855d2c090221be512459ca766abd722b29cc448ec2e", func := "cleat/cleatlaw15.PoolValue", spec := "poolValue", plainKeys := false, apart := false }
def PoolValueSaid : Prop := poolValueRow.holds Try.pinned (OpenSpec.ofChange poolValueSpec)

/-- ITS FALSE NEIGHBOUR: 'it returns false'. Refute it at one input. -/
def poolValueWrong : ChangeSpec := { name := "poolValue", fn := fun _ => fun
  | [d] => { results := [.lit (.bool false)], args := [d] }
  | _ => none }
def PoolValueWrongFalsely : Prop := poolValueRow.holds Try.pinned (OpenSpec.ofChange poolValueWrong)

/- THE SECOND FORM. 'bulk': how many values and letters a reading holds, each counted each time it is reached (what is shared counts as often as it is met; a slice's spare places count too). A statement '..UptoSaid' is the law's where the arguments, and the package variables that the reading takes, are together of bulk at most 1048576: NARROWER than '..Said'. Prove '..Said' where nothing that the law and all that it calls make is longer than what came in: it says more and counts as full. Else prove '..UptoSaid'. A law counts once. -/
mutual
def uptoBulk {H : Type} : DataW H → Nat
  | .lit (.string bytes) => bytes.length + 1
  | .lit _ => 1
  | .nil => 1
  | .ptr d => uptoBulk d + 1
  | .slice elems spare => uptoBulkAll elems + uptoBulkAll spare + 1
  | .agg parts => uptoBulkAll parts + 1
  | .iface _ d => uptoBulk d + 1
  | .map entries => uptoBulkEntries entries + 1
  | .held _ => 1
def uptoBulkAll {H : Type} : List (DataW H) → Nat
  | [] => 0
  | d :: r => uptoBulk d + uptoBulkAll r
def uptoBulkEntries {H : Type} : List (Lit × DataW H) → Nat
  | [] => 0
  | x :: r => uptoBulkEntry x + uptoBulkEntries r
def uptoBulkEntry {H : Type} : Lit × DataW H → Nat
  | (.string bytes, d) => bytes.length + uptoBulk d + 1
  | (_, d) => uptoBulk d + 1
 end
def uptoSmall : (H : Type) → List (DataW H) → Bool := fun _ ds => decide (uptoBulkAll ds ≤ 1048576)
def OpenSpec.upto (s : _root_.Go.ChangeSpec) : _root_.Go.OpenSpec := { _root_.Go.OpenSpec.ofChange s with cond := some uptoSmall }

/-- 'cleatlaw15.PoolFull', WHERE WHAT IT READS IS OF BULK AT MOST 1048576: true; the input reads as it did. -/
def poolFullUptoRow : OpenClaim := { program := "ytoglfjeggfbngaa", sum := "1ab51abe42b598f36bb88855d2c090221be512459ca766abd722b29cc448ec2e", func := "cleat/cleatlaw15.PoolFull", spec := "poolFull", plainKeys := false, apart := false, narrowed := true }
def PoolFullUptoSaid : Prop := poolFullUptoRow.holds Try.pinned (OpenSpec.upto poolFullSpec)

/-- 'cleatlaw15.PoolSame', WHERE WHAT IT READS IS OF BULK AT MOST 1048576: true; the input reads as it did. -/
def poolSameUptoRow : OpenClaim := { program := "ytoglfjeggfbngaa", sum := "1ab51abe42b598f36bb88855d2c090221be512459ca766abd722b29cc448ec2e", func := "cleat/cleatlaw15.PoolSame", spec := "poolSame", plainKeys := false, apart := false, narrowed := true }
def PoolSameUptoSaid : Prop := poolSameUptoRow.holds Try.pinned (OpenSpec.upto poolSameSpec)

/-- 'cleatlaw15.PoolAgain', WHERE WHAT IT READS IS OF BULK AT MOST 1048576: true; the input reads as it did. -/
def poolAgainUptoRow : OpenClaim := { program := "ytoglfjeggfbngaa", sum := "1ab51abe42b598f36bb88855d2c090221be512459ca766abd722b29cc448ec2e", func := "cleat/cleatlaw15.PoolAgain", spec := "poolAgain", plainKeys := false, apart := false, narrowed := true }
def PoolAgainUptoSaid : Prop := poolAgainUptoRow.holds Try.pinned (OpenSpec.upto poolAgainSpec)

/-- 'cleatlaw15.PoolValue', WHERE WHAT IT READS IS OF BULK AT MOST 1048576: true; the input reads as it did. -/
def poolValueUptoRow : OpenClaim := { program := "ytoglfjeggfbngaa", sum := "1ab51abe42b598f36bb88855d2c090221be512459ca766abd722b29cc448ec2e", func := "cleat/cleatlaw15.PoolValue", spec := "poolValue", plainKeys := false, apart := false, narrowed := true }
def PoolValueUptoSaid : Prop := poolValueUptoRow.holds Try.pinned (OpenSpec.upto poolValueSpec)

end Rows
end Go.Proofs.Ytoglfjeggfbngaa
