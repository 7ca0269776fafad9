/-
  NARROWER THAN 'FOR EVERY INPUT', by the rows' own cells (each row's printed sentence says how): CodeBack: laid · CodeWord: laid · CodeBit: laid · CodeFields: laid · CodeDoes: laid.
  DERIVED. THE GIVEN ROWS OF THIS SEAT. 5 by the template 'for every input the law returns true; each argument reads behind the call as it read before'; 0 by the template 'total and deterministic' (their statements: YtemenenkefcebaaDoorTotals.lean).
  GIVEN WITH THE SEED: the statements are not yours to turn. If you find one false, say at which input.
  Laid BY PROGRAM, IN A SANDBOX (cutbox-rows.mjs): the forced cells as the released guide's own fill.sh prints them over the translation fcd464b487f518fc… (all of the seat's roots in one cut). By AI agents, Wed Nov 11 2026. No macro, syntax, notation, axiom, sorry.
-/
import Derived.Test.YtemenenkefcebaaDoorChecked
import GoSem.Claim
import GoSem.ClaimJoined
import GoSem.ClaimMapViews
import Derived.JoinedTies
import Derived.KernelRfl
namespace Go.Proofs.YtemenenkefcebaaDoor
/- THE CELL 'sum', in the pinned program and in every row, IS THE sha256 OF THE DUMP (.gsa) THAT YtemenenkefcebaaDoorProg.lean LOADS. Nothing in Lean hashes anything: it is a label: what it is worth is what the hold of that sum in a sandbox is worth. -/
noncomputable def Tryd.pinned : Pinned := { name := "ytemenenkefcebaadoor", sum := "fcd464b487f518fc2e0e7eae24e9cd68f1739cd3dd374f49afa9c0b54299dfb8", checked := Tryd.checked }
namespace Rows
def none {H : Type} : Left H := { results := [], args := [] }

/- WHAT THE LISTED PACKAGE-LEVEL VARIABLES READ AS WHEN THE CALL BEGINS. Each datum BY PROGRAM (the guide's laid-datum.mjs) off the statement by which the dump's own 'gosem.cut.vars' lays the variable. In a bare row this is a premise. The card (YtemenenkefcebaaDoorCards.lean) ties it to the program's text. -/
def laid_cleat_inst_shapes {H : Type} : DataW H := .agg [.lit (.int .i64 0), .lit (.int .i64 1), .lit (.int .i64 1), .lit (.int .i64 1), .lit (.int .i64 2), .lit (.int .i64 2), .lit (.int .i64 2), .lit (.int .i64 2), .lit (.int .i64 3), .lit (.int .i64 3), .lit (.int .i64 3), .lit (.int .i64 3), .lit (.int .i64 4), .lit (.int .i64 4), .lit (.int .i64 4), .lit (.int .i64 4), .lit (.int .i64 5), .lit (.int .i64 5), .lit (.int .i64 5), .lit (.int .i64 5), .lit (.int .i64 6), .lit (.int .i64 6), .lit (.int .i64 7), .lit (.int .i64 7), .lit (.int .i64 8), .lit (.int .i64 8), .lit (.int .i64 9), .lit (.int .i64 10), .lit (.int .i64 10), .lit (.int .i64 11), .lit (.int .i64 11), .lit (.int .i64 12), .lit (.int .i64 9), .lit (.int .i64 9), .lit (.int .i64 13), .lit (.int .i64 13), .lit (.int .i64 13), .lit (.int .i64 14), .lit (.int .i64 15), .lit (.int .i64 16)]
def laid_cleat_code_bases {H : Type} : DataW H := .agg [.lit (.int .u32 0), .lit (.int .u32 3531603968), .lit (.int .u32 2457862144), .lit (.int .u32 4068474880), .lit (.int .u32 2432696320), .lit (.int .u32 3506438144), .lit (.int .u32 2969567232), .lit (.int .u32 4043309056), .lit (.int .u32 2449473536), .lit (.int .u32 2986344448), .lit (.int .u32 3523215360), .lit (.int .u32 4060086272), .lit (.int .u32 2332033024), .lit (.int .u32 3405774848), .lit (.int .u32 2868903936), .lit (.int .u32 3942645760), .lit (.int .u32 2315255808), .lit (.int .u32 2852126720), .lit (.int .u32 3388997632), .lit (.int .u32 3925868544), .lit (.int .u32 2600468480), .lit (.int .u32 2600501248), .lit (.int .u32 4181721088), .lit (.int .u32 4177526784), .lit (.int .u32 960495616), .lit (.int .u32 956301312), .lit (.int .u32 1476395008), .lit (.int .u32 268435456), .lit (.int .u32 2415919104), .lit (.int .u32 335544320), .lit (.int .u32 2483027968), .lit (.int .u32 1409286144), .lit (.int .u32 3019898880), .lit (.int .u32 3036676096), .lit (.int .u32 3592355840), .lit (.int .u32 3594452992), .lit (.int .u32 3596550144), .lit (.int .u32 3556769793), .lit (.int .u32 3573751839), .lit (.int .u32 2592079872)]
def laid_cleat_code_fields {H : Type} : DataW H := .agg [.lit (.int .u32 0), .lit (.int .u32 8388607), .lit (.int .u32 8388607), .lit (.int .u32 8388607), .lit (.int .u32 14680063), .lit (.int .u32 14680063), .lit (.int .u32 2064383), .lit (.int .u32 4194303), .lit (.int .u32 4194303), .lit (.int .u32 16777215), .lit (.int .u32 1627389951), .lit (.int .u32 67108863), .lit (.int .u32 16777199), .lit (.int .u32 992), .lit (.int .u32 2097120), .lit (.int .u32 0), .lit (.int .u32 2094079)]

/-- 'cleatlaw05.CodeBack': WHATEVER THE INPUT: true; the input reads as it did. -/
def codeBackSpec : ChangeSpec := { name := "codeBack", fn := fun _ => fun
  | [d] => { results := [.lit (.bool true)], args := [d] }
  | _ => none }
def codeBackRow : OpenClaim := { program := "ytemenenkefcebaadoor", sum := "fcd464b487f518fc2e0e7eae24e9cd68f1739cd3dd374f49afa9c0b54299dfb8", func := "cleat/cleatlaw05.CodeBack", spec := "codeBack", unfollowed := true, recurses := true, named := ["cleat/code.bases", "cleat/inst.shapes", "cleat/code.fields"], apart := false, laid := [("cleat/inst.shapes", laid_cleat_inst_shapes), ("cleat/code.bases", laid_cleat_code_bases), ("cleat/code.fields", laid_cleat_code_fields)] }
def CodeBackSaid : Prop := codeBackRow.holds Tryd.pinned (OpenSpec.ofChange codeBackSpec)

/-- ITS FALSE NEIGHBOUR: 'it returns false'. Refute it at one input. -/
def codeBackWrong : ChangeSpec := { name := "codeBack", fn := fun _ => fun
  | [d] => { results := [.lit (.bool false)], args := [d] }
  | _ => none }
def CodeBackWrongFalsely : Prop := codeBackRow.holds Tryd.pinned (OpenSpec.ofChange codeBackWrong)

/-- 'cleatlaw05.CodeWord': WHATEVER THE INPUT: true; the input reads as it did. -/
def codeWordSpec : ChangeSpec := { name := "codeWord", fn := fun _ => fun
  | [d] => { results := [.lit (.bool true)], args := [d] }
  | _ => none }
def codeWordRow : OpenClaim := { program := "ytemenenkefcebaadoor", sum := "fcd464b487f518fc2e0e7eae24e9cd68f1739cd3dd374f49afa9c0b54299dfb8", func := "cleat/cleatlaw05.CodeWord", spec := "codeWord", unfollowed := true, recurses := true, named := ["cleat/code.fields", "cleat/code.bases", "cleat/inst.shapes"], apart := false, laid := [("cleat/inst.shapes", laid_cleat_inst_shapes), ("cleat/code.bases", laid_cleat_code_bases), ("cleat/code.fields", laid_cleat_code_fields)] }
def CodeWordSaid : Prop := codeWordRow.holds Tryd.pinned (OpenSpec.ofChange codeWordSpec)

/-- ITS FALSE NEIGHBOUR: 'it returns false'. Refute it at one input. -/
def codeWordWrong : ChangeSpec := { name := "codeWord", fn := fun _ => fun
  | [d] => { results := [.lit (.bool false)], args := [d] }
  | _ => none }
def CodeWordWrongFalsely : Prop := codeWordRow.holds Tryd.pinned (OpenSpec.ofChange codeWordWrong)

/-- 'cleatlaw05.CodeBit': WHATEVER THE INPUT: true; the input reads as it did. -/
def codeBitSpec : ChangeSpec := { name := "codeBit", fn := fun _ => fun
  | [d1, d2] => { results := [.lit (.bool true)], args := [d1, d2] }
  | _ => none }
def codeBitRow : OpenClaim := { program := "ytemenenkefcebaadoor", sum := "fcd464b487f518fc2e0e7eae24e9cd68f1739cd3dd374f49afa9c0b54299dfb8", func := "cleat/cleatlaw05.CodeBit", spec := "codeBit", unfollowed := true, recurses := true, named := ["cleat/code.fields", "cleat/code.bases", "cleat/inst.shapes"], apart := false, laid := [("cleat/inst.shapes", laid_cleat_inst_shapes), ("cleat/code.bases", laid_cleat_code_bases), ("cleat/code.fields", laid_cleat_code_fields)] }
def CodeBitSaid : Prop := codeBitRow.holds Tryd.pinned (OpenSpec.ofChange codeBitSpec)

/-- ITS FALSE NEIGHBOUR: 'it returns false'. Refute it at one input. -/
def codeBitWrong : ChangeSpec := { name := "codeBit", fn := fun _ => fun
  | [d1, d2] => { results := [.lit (.bool false)], args := [d1, d2] }
  | _ => none }
def CodeBitWrongFalsely : Prop := codeBitRow.holds Tryd.pinned (OpenSpec.ofChange codeBitWrong)

/-- 'cleatlaw05.CodeFields': WHATEVER THE INPUT: true; the input reads as it did. -/
def codeFieldsSpec : ChangeSpec := { name := "codeFields", fn := fun _ => fun
  | [d1, d2] => { results := [.lit (.bool true)], args := [d1, d2] }
  | _ => none }
def codeFieldsRow : OpenClaim := { program := "ytemenenkefcebaadoor", sum := "fcd464b487f518fc2e0e7eae24e9cd68f1739cd3dd374f49afa9c0b54299dfb8", func := "cleat/cleatlaw05.CodeFields", spec := "codeFields", unfollowed := true, recurses := true, named := ["cleat/code.bases", "cleat/inst.shapes", "cleat/code.fields"], apart := false, laid := [("cleat/inst.shapes", laid_cleat_inst_shapes), ("cleat/code.bases", laid_cleat_code_bases), ("cleat/code.fields", laid_cleat_code_fields)] }
def CodeFieldsSaid : Prop := codeFieldsRow.holds Tryd.pinned (OpenSpec.ofChange codeFieldsSpec)

/-- ITS FALSE NEIGHBOUR: 'it returns false'. Refute it at one input. -/
def codeFieldsWrong : ChangeSpec := { name := "codeFields", fn := fun _ => fun
  | [d1, d2] => { results := [.lit (.bool false)], args := [d1, d2] }
  | _ => none }
def CodeFieldsWrongFalsely : Prop := codeFieldsRow.holds Tryd.pinned (OpenSpec.ofChange codeFieldsWrong)

/-- 'cleatlaw05.CodeDoes': WHATEVER THE INPUT: true; the input reads as it did. -/
def codeDoesSpec : ChangeSpec := { name := "codeDoes", fn := fun _ => fun
  | [d1, d2, d3] => { results := [.lit (.bool true)], args := [d1, d2, d3] }
  | _ => none }
def codeDoesRow : OpenClaim := { program := "ytemenenkefcebaadoor", sum := "fcd464b487f518fc2e0e7eae24e9cd68f1739cd3dd374f49afa9c0b54299dfb8", func := "cleat/cleatlaw05.CodeDoes", spec := "codeDoes", unfollowed := true, recurses := true, named := ["cleat/code.bases", "cleat/inst.shapes", "cleat/code.fields"], apart := false, laid := [("cleat/inst.shapes", laid_cleat_inst_shapes), ("cleat/code.bases", laid_cleat_code_bases), ("cleat/code.fields", laid_cleat_code_fields)] }
def CodeDoesSaid : Prop := codeDoesRow.holds Tryd.pinned (OpenSpec.ofChange codeDoesSpec)

/-- ITS FALSE NEIGHBOUR: 'it returns false'. Refute it at one input. -/
def codeDoesWrong : ChangeSpec := { name := "codeDoes", fn := fun _ => fun
  | [d1, d2, d3] => { results := [.lit (.bool false)], args := [d1, d2, d3] }
  | _ => none }
def CodeDoesWrongFalsely : Prop := codeDoesRow.holds Tryd.pinned (OpenSpec.ofChange codeDoesWrong)

/- THE SECOND FORM. 'bulk': how many values and letters a reading holds, each counted each time it is reached (what is shared counts as often as it is met; a slice's spare places count too). A statement '..UptoSaid' is the law's where the arguments, and the package variables that the reading takes, are together of bulk at most 1048576: NARROWER than '..Said'. Prove '..Said' where nothing that the law and all that it calls make is longer than what came in: it says more and counts as full. Else prove '..UptoSaid'. A law counts once. -/
mutual
def uptoBulk {H : Type} : DataW H → Nat
  | .lit (.string bytes) => bytes.length + 1
  | .lit _ => 1
  | .nil => 1
  | .ptr d => uptoBulk d + 1
  | .slice elems spare => uptoBulkAll elems + uptoBulkAll spare + 1
  | .agg parts => uptoBulkAll parts + 1
  | .iface _ d => uptoBulk d + 1
  | .map entries => uptoBulkEntries entries + 1
  | .held _ => 1
def uptoBulkAll {H : Type} : List (DataW H) → Nat
  | [] => 0
  | d :: r => uptoBulk d + uptoBulkAll r
def uptoBulkEntries {H : Type} : List (Lit × DataW H) → Nat
  | [] => 0
  | x :: r => uptoBulkEntry x + uptoBulkEntries r
def uptoBulkEntry {H : Type} : Lit × DataW H → Nat
  | (.string bytes, d) => bytes.length + uptoBulk d + 1
  | (_, d) => uptoBulk d + 1
 end
def uptoSmall : (H : Type) → List (DataW H) → Bool := fun _ ds => decide (uptoBulkAll ds ≤ 1048576)
def OpenSpec.upto (s : _root_.Go.ChangeSpec) : _root_.Go.OpenSpec := { _root_.Go.OpenSpec.ofChange s with cond := some uptoSmall }

/-- 'cleatlaw05.CodeBack', WHERE WHAT IT READS IS OF BULK AT MOST 1048576: true; the input reads as it did. -/
def codeBackUptoRow : OpenClaim := { program := "ytemenenkefcebaadoor", sum := "fcd464b487f518fc2e0e7eae24e9cd68f1739cd3dd374f49afa9c0b54299dfb8", func := "cleat/cleatlaw05.CodeBack", spec := "codeBack", unfollowed := true, recurses := true, named := ["cleat/code.bases", "cleat/inst.shapes", "cleat/code.fields"], apart := false, laid := [("cleat/inst.shapes", laid_cleat_inst_shapes), ("cleat/code.bases", laid_cleat_code_bases), ("cleat/code.fields", laid_cleat_code_fields)], narrowed := true }
def CodeBackUptoSaid : Prop := codeBackUptoRow.holds Tryd.pinned (OpenSpec.upto codeBackSpec)

/-- 'cleatlaw05.CodeWord', WHERE WHAT IT READS IS OF BULK AT MOST 1048576: true; the input reads as it did. -/
def codeWordUptoRow : OpenClaim := { program := "ytemenenkefcebaadoor", sum := "fcd464b487f518fc2e0e7eae24e9cd68f1739cd3dd374f49afa9c0b54299dfb8", func := "cleat/cleatlaw05.CodeWord", spec := "codeWord", unfollowed := true, recurses := true, named := ["cleat/code.fields", "cleat/code.bases", "cleat/inst.shapes"], apart := false, laid := [("cleat/inst.shapes", laid_cleat_inst_shapes), ("cleat/code.bases", laid_cleat_code_bases), ("cleat/code.fields", laid_cleat_code_fields)], narrowed := true }
def CodeWordUptoSaid : Prop := codeWordUptoRow.holds Tryd.pinned (OpenSpec.upto codeWordSpec)

/-- 'cleatlaw05.CodeBit', WHERE WHAT IT READS IS OF BULK AT MOST 1048576: true; the input reads as it did. -/
def codeBitUptoRow : OpenClaim := { program := "ytemenenkefcebaadoor", sum := "fcd464b487f518fc2e0e7eae24e9cd68f1739cd3dd374f49afa9c0b54299dfb8", func := "cleat/cleatlaw05.CodeBit", spec := "codeBit", unfollowed := true, recurses := true, named := ["cleat/code.fields", "cleat/code.bases", "cleat/inst.shapes"], apart := false, laid := [("cleat/inst.shapes", laid_cleat_inst_shapes), ("cleat/code.bases", laid_cleat_code_bases), ("cleat/code.fields", laid_cleat_code_fields)], narrowed := true }
def CodeBitUptoSaid : Prop := codeBitUptoRow.holds Tryd.pinned (OpenSpec.upto codeBitSpec)

/-- 'cleatlaw05.CodeFields', WHERE WHAT IT READS IS OF BULK AT MOST 1048576: true; the input reads as it did. -/
def codeFieldsUptoRow : OpenClaim := { program := "ytemenenkefcebaadoor", sum := "fcd464b487f518fc2e0e7eae24e9cd68f1739cd3dd374f49afa9c0b54299dfb8", func := "cleat/cleatlaw05.CodeFields", spec := "codeFields", unfollowed := true, recurses := true, named := ["cleat/code.bases", "cleat/inst.shapes", "cleat/code.fields"], apart := false, laid := [("cleat/inst.shapes", laid_cleat_inst_shapes), ("cleat/code.bases", laid_cleat_code_bases), ("cleat/code.fields", laid_cleat_code_fields)], narrowed := true }
def CodeFieldsUptoSaid : Prop := codeFieldsUptoRow.holds Tryd.pinned (OpenSpec.upto codeFieldsSpec)

/-- 'cleatlaw05.CodeDoes', WHERE WHAT IT READS IS OF BULK AT MOST 1048576: true; the input reads as it did. -/
def codeDoesUptoRow : OpenClaim := { program := "ytemenenkefcebaadoor", sum := "fcd464b487f518fc2e0e7eae24e9cd68f1739cd3dd374f49afa9c0b54299dfb8", func := "cleat/cleatlaw05.CodeDoes", spec := "codeDoes", unfollowed := true, recurses := true, named := ["cleat/code.bases", "cleat/inst.shapes", "cleat/code.fields"], apart := false, laid := [("cleat/inst.shapes", laid_cleat_inst_shapes), ("cleat/code.bases", laid_cleat_code_bases), ("cleat/code.fields", laid_cleat_code_fields)], narrowed := true }
def CodeDoesUptoSaid : Prop := codeDoesUptoRow.holds Tryd.pinned (OpenSpec.upto codeDoesSpec)

end Rows
end Go.Proofs.YtemenenkefcebaaDoor
